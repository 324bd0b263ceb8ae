import Derived.Test.YtiibjcnedbncjaaGreatDoorPk7
set_option linter.unusedVariables false
set_option linter.unusedSimpArgs false
set_option maxRecDepth 100000
set_option maxHeartbeats 40000000
namespace Go.Proofs.YtiibjcnedbncjaaGreatDoor
open Go.RowKit
structure bX (v:VVm):Prop where
 mem:cb v.mem
 old:v.mem.old.length+1≤1000000
 here:g6 v.mem v.here
 out2:0≤v.conf.out∧v.conf.out≤900000
 out:v.out.length≤1000000
 pic:v.pic.b.length≤1000000
 req:v.req.length≤100000
 hand:v.hand.length≤1000000
 d:v.d.length≤50000
 fit:∀a∈v.d,ae a
 data:ae v.conf.data
theorem bX.out1{v:VVm}(h:bX v):0≤v.conf.out∧v.conf.out≤1000000:=by have:=h.out2;omega
theorem bX.x{v:VVm}(h:bX v){k:Nat}(hk:k≤v.d.length):XOk k (v.d.drop (v.d.length-k)) :=
 ⟨by rw[List.length_drop];omega,fun a ha=>h.fit a (List.mem_of_mem_drop ha)⟩
theorem qM(m:aV)(a n:Int):(bT m a n).1.length≤m.b.length:=by
 unfold bT
 split
 ·simp only[List.length_take,List.length_drop];omega
 simp
theorem Gb(b:Nat):∀k u,(oa b k u).length≤k+1:=by
 intro k
 induction k with
 | zero=>intro u;simp[oa]
 | succ k ih=>intro u;unfold oa;split<;>simp;have:=ih (u/b);omega
theorem oq(u b:Nat):(iB u b).length≤900:=by
 unfold iB
 have:=Gb b 64 u
 simp only[List.length_reverse,List.length_map]
 omega
theorem oR(n b:Int):(fX n b).1.length≤1000:=by
 unfold fX
 split
 ·simp only
  split
  ·have:=oq (U n) b.toNat;omega
  have:=oq (U (wrap64 (-n))) b.toNat;simp only[List.length_cons];omega
 simp
theorem aE{v:VVm}{n:Int}(h0:39≤n)(h1:n≤129):doS v n=doR v (aU n (ao.getD n.toNat [])) (aY v n (ao.getD n.toNat []) (v.d.drop (v.d.length-aU n (ao.getD n.toNat [])))):=by
 unfold doS doR
 rw[if_neg (by omega)]
 simp only
 rw[if_neg (by omega)]
theorem EU{v:VVm}{k:Nat}{r r':VVm×List Int×Int}(h1:r'.2.2=r.2.2)(h2:r.2.2=0→r'=r):doR v k r'=doR v k r:=by
 by_cases h:r.2.2=0
 ·rw[h2 h]
 unfold doR
 rw[h1]
 simp only[h,ne_eq,not_false_eq_true,if_true]
theorem FB(v:VVm)(x:List Int):(v,bB v x).2.2=(kz v x).2.2:=by
 unfold bB kz
 split<;>rfl
theorem Md(v:VVm)(x:List Int)(h:(kz v x).2.2=0):(v,bB v x)=kz v x:=by
 unfold bB kz at *
 split at h
 ·cases h
 rename_i hc;rw[if_neg hc,if_neg hc]
theorem mO(n b:Int):(cJ n b).1.length≤1000:=by
 unfold cJ
 split
 ·have:=oq (U n) b.toNat;simp only;omega
 simp
theorem Pw(v:VVm)(hv:bX v)(n:Int)(h0:39≤n)(h1:n≤58):ab Tryz.prog 52 [eVm v,i64 n] (tVm (doS v n)):=by
 have hk:aU n (ao.getD n.toNat [])=2:=by unfold aU;rw[if_pos h1]
 rw[aE h0 (by omega),hk]
 have e:∀x,aY v n (ao.getD n.toNat []) x=(v,[(gn (ao.getD n.toNat []) (xat x 0) (xat x 1)).1],(gn (ao.getD n.toNat []) (xat x 0) (xat x 1)).2.2):=fun x=>by unfold aY;rw[if_pos h1]
 rw[e]
 exact aR v n 2 178 _ _ h0 (by omega) (by have:=hv.d;omega) hv.data (by omega) (by simp) (E9 n _ h1) (by simp) (fun hk H i hi=>⟨⟨_,Tryz.func178,rfl,rfl⟩,jx 140 [.row [str (ao.getD n.toNat [])]] v _ _ (by simp) (fun H=>⟨⟨_,Tryz.func140,rfl,rfl⟩,Tu _ _ (hv.x hk) H⟩) H i hi⟩)
theorem Oj(v:VVm)(hv:bX v)(n:Int)(h0:58<n)(h1:n≤72):ab Tryz.prog 52 [eVm v,i64 n] (tVm (doS v n)):=by
 have hk:aU n (ao.getD n.toNat [])=1:=by unfold aU;rw[if_neg (by omega),if_pos h1]
 rw[aE (by omega) (by omega),hk]
 have e:∀x,aY v n (ao.getD n.toNat []) x=(v,[(nD (ao.getD n.toNat []) (xat x 0)).1],0):=fun x=>by unfold aY;rw[if_neg (by omega),if_pos h1]
 rw[e]
 exact aR v n 1 178 _ _ (by omega) (by omega) (by have:=hv.d;omega) hv.data (by omega) (by simp) (EE n _ h0 h1) (by simp) (fun hk H i hi=>⟨⟨_,Tryz.func178,rfl,rfl⟩,jx 142 [.row [str (ao.getD n.toNat [])]] v _ _ (by simp) (fun H=>⟨⟨_,Tryz.func142,rfl,rfl⟩,Ta _ _ (hv.x hk) H⟩) H i hi⟩)
theorem SD(v:VVm)(x:List Int):aY v 73 [47,77,79,68] x=(v,bp x):=by kernel_rfl
theorem Rw(v:VVm)(hv:bX v):ab Tryz.prog 52 [eVm v,i64 73] (tVm (doS v 73)):=by
 have hk:aU 73 (ao.getD (73:Int).toNat [])=2:=by kernel_rfl
 have hn:ao.getD (73:Int).toNat []=[47,77,79,68]:=by kernel_rfl
 rw[aE (by decide) (by decide),hk,hn,SD]
 refine aR v 73 2 178 [.row [fnP 187 mg]] _ (by decide) (by decide) (by have:=hv.d;omega) hv.data (by decide) (by simp) (by rw[hn];exact ib 73 _ _ _ _ (by decide) (by simp)  rfl) (by(show List.length _≤_;simp[bN,bv,cu,dB,dZ,eo,d7,bO,bp,aW,cw,pUM,pM,cy,cB,cz,pSD,bq,bB])) (fun hk H i hi=>?_)
 have hx:=hv.x hk
 generalize v.d.drop (v.d.length-2)=x at hx ⊢
 exact⟨⟨_,Tryz.func178,rfl,rfl⟩,jx 187 mg v x (v,bp x).2 (by simp) (fun H=>⟨⟨_,Tryz.func187,rfl,rfl⟩,Tn x hx H⟩) H i hi⟩
theorem SG(v:VVm)(x:List Int):aY v 75 [42,47,77,79,68] x=(v,aW x):=by kernel_rfl
theorem RI(v:VVm)(hv:bX v):ab Tryz.prog 52 [eVm v,i64 75] (tVm (doS v 75)):=by
 have hk:aU 75 (ao.getD (75:Int).toNat [])=3:=by kernel_rfl
 have hn:ao.getD (75:Int).toNat []=[42,47,77,79,68]:=by kernel_rfl
 rw[aE (by decide) (by decide),hk,hn,SG]
 refine aR v 75 3 178 [.row [fnP 188 Bd]] _ (by decide) (by decide) (by have:=hv.d;omega) hv.data (by decide) (by simp) (by rw[hn];exact ib 75 _ _ _ _ (by decide) (by simp)  rfl) (by(show List.length _≤_;simp[bN,bv,cu,dB,dZ,eo,d7,bO,bp,aW,cw,pUM,pM,cy,cB,cz,pSD,bq,bB])) (fun hk H i hi=>?_)
 have hx:=hv.x hk
 generalize v.d.drop (v.d.length-3)=x at hx ⊢
 exact⟨⟨_,Tryz.func178,rfl,rfl⟩,jx 188 Bd v x (v,aW x).2 (by simp) (fun H=>⟨⟨_,Tryz.func188,rfl,rfl⟩,Ti x hx H⟩) H i hi⟩
theorem Sj(v:VVm)(x:List Int):aY v 74 [42,47] x=(v,cw x):=by kernel_rfl
theorem RG(v:VVm)(hv:bX v):ab Tryz.prog 52 [eVm v,i64 74] (tVm (doS v 74)):=by
 have hk:aU 74 (ao.getD (74:Int).toNat [])=3:=by kernel_rfl
 have hn:ao.getD (74:Int).toNat []=[42,47]:=by kernel_rfl
 rw[aE (by decide) (by decide),hk,hn,Sj]
 refine aR v 74 3 178 [.row [fnP 189 H7]] _ (by decide) (by decide) (by have:=hv.d;omega) hv.data (by decide) (by simp) (by rw[hn];exact ib 74 _ _ _ _ (by decide) (by simp)  rfl) (by(show List.length _≤_;simp[bN,bv,cu,dB,dZ,eo,d7,bO,bp,aW,cw,pUM,pM,cy,cB,cz,pSD,bq,bB])) (fun hk H i hi=>?_)
 have hx:=hv.x hk
 generalize v.d.drop (v.d.length-3)=x at hx ⊢
 exact⟨⟨_,Tryz.func178,rfl,rfl⟩,jx 189 H7 v x (v,cw x).2 (by simp) (fun H=>⟨⟨_,Tryz.func189,rfl,rfl⟩,Te x hx H⟩) H i hi⟩
theorem Rm(v:VVm)(x:List Int):aY v 76 [85,77,42] x=(v,pUM x):=by kernel_rfl
theorem SQ(v:VVm)(hv:bX v):ab Tryz.prog 52 [eVm v,i64 76] (tVm (doS v 76)):=by
 have hk:aU 76 (ao.getD (76:Int).toNat [])=2:=by kernel_rfl
 have hn:ao.getD (76:Int).toNat []=[85,77,42]:=by kernel_rfl
 rw[aE (by decide) (by decide),hk,hn,Rm]
 refine aR v 76 2 178 [.row [fnP 190 []]] _ (by decide) (by decide) (by have:=hv.d;omega) hv.data (by decide) (by simp) (by rw[hn];exact ib 76 _ _ _ _ (by decide) (by simp)  rfl) (by(show List.length _≤_;simp[bN,bv,cu,dB,dZ,eo,d7,bO,bp,aW,cw,pUM,pM,cy,cB,cz,pSD,bq,bB])) (fun hk H i hi=>?_)
 have hx:=hv.x hk
 generalize v.d.drop (v.d.length-2)=x at hx ⊢
 exact⟨⟨_,Tryz.func178,rfl,rfl⟩,jx 190 [] v x (v,pUM x).2 (by simp) (fun H=>⟨⟨_,Tryz.func190,rfl,rfl⟩,TO x hx H⟩) H i hi⟩
theorem R8(v:VVm)(x:List Int):aY v 78 [77,42] x=(v,pM x):=by kernel_rfl
theorem R0(v:VVm)(hv:bX v):ab Tryz.prog 52 [eVm v,i64 78] (tVm (doS v 78)):=by
 have hk:aU 78 (ao.getD (78:Int).toNat [])=2:=by kernel_rfl
 have hn:ao.getD (78:Int).toNat []=[77,42]:=by kernel_rfl
 rw[aE (by decide) (by decide),hk,hn,R8]
 refine aR v 78 2 178 [.row [fnP 192 []]] _ (by decide) (by decide) (by have:=hv.d;omega) hv.data (by decide) (by simp) (by rw[hn];exact ib 78 _ _ _ _ (by decide) (by simp)  rfl) (by(show List.length _≤_;simp[bN,bv,cu,dB,dZ,eo,d7,bO,bp,aW,cw,pUM,pM,cy,cB,cz,pSD,bq,bB])) (fun hk H i hi=>?_)
 have hx:=hv.x hk
 generalize v.d.drop (v.d.length-2)=x at hx ⊢
 exact⟨⟨_,Tryz.func178,rfl,rfl⟩,jx 192 [] v x (v,pM x).2 (by simp) (fun H=>⟨⟨_,Tryz.func192,rfl,rfl⟩,Tz x hx H⟩) H i hi⟩
theorem SJ(v:VVm)(x:List Int):aY v 77 [85,77,47,77,79,68] x=(v,cy x):=by kernel_rfl
theorem SL(v:VVm)(hv:bX v):ab Tryz.prog 52 [eVm v,i64 77] (tVm (doS v 77)):=by
 have hk:aU 77 (ao.getD (77:Int).toNat [])=3:=by kernel_rfl
 have hn:ao.getD (77:Int).toNat []=[85,77,47,77,79,68]:=by kernel_rfl
 rw[aE (by decide) (by decide),hk,hn,SJ]
 refine aR v 77 3 178 [.row [fnP 193 mg]] _ (by decide) (by decide) (by have:=hv.d;omega) hv.data (by decide) (by simp) (by rw[hn];exact ib 77 _ _ _ _ (by decide) (by simp)  rfl) (by(show List.length _≤_;simp[bN,bv,cu,dB,dZ,eo,d7,bO,bp,aW,cw,pUM,pM,cy,cB,cz,pSD,bq,bB])) (fun hk H i hi=>?_)
 have hx:=hv.x hk
 generalize v.d.drop (v.d.length-3)=x at hx ⊢
 exact⟨⟨_,Tryz.func178,rfl,rfl⟩,jx 193 mg v x (v,cy x).2 (by simp) (fun H=>⟨⟨_,Tryz.func193,rfl,rfl⟩,TH x hx H⟩) H i hi⟩
theorem SZ(v:VVm)(x:List Int):aY v 79 [83,77,47,82,69,77] x=(v,cB x):=by kernel_rfl
theorem SB(v:VVm)(hv:bX v):ab Tryz.prog 52 [eVm v,i64 79] (tVm (doS v 79)):=by
 have hk:aU 79 (ao.getD (79:Int).toNat [])=3:=by kernel_rfl
 have hn:ao.getD (79:Int).toNat []=[83,77,47,82,69,77]:=by kernel_rfl
 rw[aE (by decide) (by decide),hk,hn,SZ]
 refine aR v 79 3 178 [.row [fnP 195 mg]] _ (by decide) (by decide) (by have:=hv.d;omega) hv.data (by decide) (by simp) (by rw[hn];exact ib 79 _ _ _ _ (by decide) (by simp)  rfl) (by(show List.length _≤_;simp[bN,bv,cu,dB,dZ,eo,d7,bO,bp,aW,cw,pUM,pM,cy,cB,cz,pSD,bq,bB])) (fun hk H i hi=>?_)
 have hx:=hv.x hk
 generalize v.d.drop (v.d.length-3)=x at hx ⊢
 exact⟨⟨_,Tryz.func178,rfl,rfl⟩,jx 195 mg v x (v,cB x).2 (by simp) (fun H=>⟨⟨_,Tryz.func195,rfl,rfl⟩,S8 x hx H⟩) H i hi⟩
theorem RT(v:VVm)(x:List Int):aY v 80 [70,77,47,77,79,68] x=(v,cz x):=by kernel_rfl
theorem Sc(v:VVm)(hv:bX v):ab Tryz.prog 52 [eVm v,i64 80] (tVm (doS v 80)):=by
 have hk:aU 80 (ao.getD (80:Int).toNat [])=3:=by kernel_rfl
 have hn:ao.getD (80:Int).toNat []=[70,77,47,77,79,68]:=by kernel_rfl
 rw[aE (by decide) (by decide),hk,hn,RT]
 refine aR v 80 3 178 [.row [fnP 197 mg]] _ (by decide) (by decide) (by have:=hv.d;omega) hv.data (by decide) (by simp) (by rw[hn];exact ib 80 _ _ _ _ (by decide) (by simp)  rfl) (by(show List.length _≤_;simp[bN,bv,cu,dB,dZ,eo,d7,bO,bp,aW,cw,pUM,pM,cy,cB,cz,pSD,bq,bB])) (fun hk H i hi=>?_)
 have hx:=hv.x hk
 generalize v.d.drop (v.d.length-3)=x at hx ⊢
 exact⟨⟨_,Tryz.func178,rfl,rfl⟩,jx 197 mg v x (v,cz x).2 (by simp) (fun H=>⟨⟨_,Tryz.func197,rfl,rfl⟩,SP x hx H⟩) H i hi⟩
theorem Sp(v:VVm)(x:List Int):aY v 81 [83,62,68] x=(v,pSD x):=by kernel_rfl
theorem ST(v:VVm)(hv:bX v):ab Tryz.prog 52 [eVm v,i64 81] (tVm (doS v 81)):=by
 have hk:aU 81 (ao.getD (81:Int).toNat [])=1:=by kernel_rfl
 have hn:ao.getD (81:Int).toNat []=[83,62,68]:=by kernel_rfl
 rw[aE (by decide) (by decide),hk,hn,Sp]
 refine aR v 81 1 178 [.row [fnP 198 []]] _ (by decide) (by decide) (by have:=hv.d;omega) hv.data (by decide) (by simp) (by rw[hn];exact ib 81 _ _ _ _ (by decide) (by simp)  rfl) (by(show List.length _≤_;simp[bN,bv,cu,dB,dZ,eo,d7,bO,bp,aW,cw,pUM,pM,cy,cB,cz,pSD,bq,bB])) (fun hk H i hi=>?_)
 have hx:=hv.x hk
 generalize v.d.drop (v.d.length-1)=x at hx ⊢
 exact⟨⟨_,Tryz.func178,rfl,rfl⟩,jx 198 [] v x (v,pSD x).2 (by simp) (fun H=>⟨⟨_,Tryz.func198,rfl,rfl⟩,RO x hx H⟩) H i hi⟩
theorem Rn(v:VVm)(x:List Int):aY v 82 [87,73,84,72,73,78] x=(v,bq x):=by kernel_rfl
theorem Ru(v:VVm)(hv:bX v):ab Tryz.prog 52 [eVm v,i64 82] (tVm (doS v 82)):=by
 have hk:aU 82 (ao.getD (82:Int).toNat [])=3:=by kernel_rfl
 have hn:ao.getD (82:Int).toNat []=[87,73,84,72,73,78]:=by kernel_rfl
 rw[aE (by decide) (by decide),hk,hn,Rn]
 refine aR v 82 3 178 [.row [fnP 200 []]] _ (by decide) (by decide) (by have:=hv.d;omega) hv.data (by decide) (by simp) (by rw[hn];exact ib 82 _ _ _ _ (by decide) (by simp)  rfl) (by(show List.length _≤_;simp[bN,bv,cu,dB,dZ,eo,d7,bO,bp,aW,cw,pUM,pM,cy,cB,cz,pSD,bq,bB])) (fun hk H i hi=>?_)
 have hx:=hv.x hk
 generalize v.d.drop (v.d.length-3)=x at hx ⊢
 exact⟨⟨_,Tryz.func178,rfl,rfl⟩,jx 200 [] v x (v,bq x).2 (by simp) (fun H=>⟨⟨_,Tryz.func200,rfl,rfl⟩,Sq x hx H⟩) H i hi⟩
theorem S2(v:VVm)(x:List Int):aY v 83 [64] x=bN v x:=by kernel_rfl
theorem RD(v:VVm)(hv:bX v):ab Tryz.prog 52 [eVm v,i64 83] (tVm (doS v 83)):=by
 have hk:aU 83 (ao.getD (83:Int).toNat [])=1:=by kernel_rfl
 have hn:ao.getD (83:Int).toNat []=[64]:=by kernel_rfl
 rw[aE (by decide) (by decide),hk,hn,S2]
 refine aR v 83 1 305 [.row [fnP 45 []]] _ (by decide) (by decide) (by have:=hv.d;omega) hv.data (by decide) (by simp) (by rw[hn];exact hE 83 _ _ _ _ (by decide) (by simp) rfl rfl) (by(show List.length _≤_;simp[bN,bv,cu,dB,dZ,eo,d7,bO,bp,aW,cw,pUM,pM,cy,cB,cz,pSD,bq,bB])) (fun hk H i hi=>?_)
 have hx:=hv.x hk
 generalize v.d.drop (v.d.length-1)=x at hx ⊢
 exact⟨⟨_,Tryz.func305,rfl,rfl⟩,rN 45 [] v x _ hx.len (by simp) (fun H=>⟨⟨_,Tryz.func45,rfl,rfl⟩,(gT v.mem _ (eK hv.mem) (hx.fit 0)) H⟩) H i hi⟩
theorem R9(v:VVm)(x:List Int):aY v 86 [67,64] x=bv v x:=by kernel_rfl
theorem SW(v:VVm)(hv:bX v):ab Tryz.prog 52 [eVm v,i64 86] (tVm (doS v 86)):=by
 have hk:aU 86 (ao.getD (86:Int).toNat [])=1:=by kernel_rfl
 have hn:ao.getD (86:Int).toNat []=[67,64]:=by kernel_rfl
 rw[aE (by decide) (by decide),hk,hn,R9]
 refine aR v 86 1 305 [.row [fnP 203 []]] _ (by decide) (by decide) (by have:=hv.d;omega) hv.data (by decide) (by simp) (by rw[hn];exact hE 86 _ _ _ _ (by decide) (by simp) rfl rfl) (by(show List.length _≤_;simp[bN,bv,cu,dB,dZ,eo,d7,bO,bp,aW,cw,pUM,pM,cy,cB,cz,pSD,bq,bB])) (fun hk H i hi=>?_)
 have hx:=hv.x hk
 generalize v.d.drop (v.d.length-1)=x at hx ⊢
 exact⟨⟨_,Tryz.func305,rfl,rfl⟩,rN 203 [] v x _ hx.len (by simp) (fun H=>⟨⟨_,Tryz.func203,rfl,rfl⟩,(pb v.mem _ hv.mem (hx.fit 0)) H⟩) H i hi⟩
theorem Rs(v:VVm)(x:List Int):aY v 84 [33] x=cu v (aG v.mem (xat x 1) (xat x 0)):=by kernel_rfl
theorem Si(v:VVm)(hv:bX v):ab Tryz.prog 52 [eVm v,i64 84] (tVm (doS v 84)):=by
 have hk:aU 84 (ao.getD (84:Int).toNat [])=2:=by kernel_rfl
 have hn:ao.getD (84:Int).toNat []=[33]:=by kernel_rfl
 rw[aE (by decide) (by decide),hk,hn,Rs]
 refine aR v 84 2 306 [.row [fnP 205 []]] _ (by decide) (by decide) (by have:=hv.d;omega) hv.data (by decide) (by simp) (by rw[hn];exact hE 84 _ _ _ _ (by decide) (by simp) rfl rfl) (by(show List.length _≤_;simp[bN,bv,cu,dB,dZ,eo,d7,bO,bp,aW,cw,pUM,pM,cy,cB,cz,pSD,bq,bB])) (fun hk H i hi=>?_)
 have hx:=hv.x hk
 generalize v.d.drop (v.d.length-2)=x at hx ⊢
 exact⟨⟨_,Tryz.func306,rfl,rfl⟩,kd 205 [] v x _ (by simp) (fun H=>⟨⟨_,Tryz.func205,rfl,rfl⟩,TQ v x hv.mem hx H⟩) H i hi⟩
theorem Rp(v:VVm)(x:List Int):aY v 87 [67,33] x=cu v (jc v.mem (xat x 1) (xat x 0)):=by kernel_rfl
theorem SH(v:VVm)(hv:bX v):ab Tryz.prog 52 [eVm v,i64 87] (tVm (doS v 87)):=by
 have hk:aU 87 (ao.getD (87:Int).toNat [])=2:=by kernel_rfl
 have hn:ao.getD (87:Int).toNat []=[67,33]:=by kernel_rfl
 rw[aE (by decide) (by decide),hk,hn,Rp]
 refine aR v 87 2 306 [.row [fnP 207 []]] _ (by decide) (by decide) (by have:=hv.d;omega) hv.data (by decide) (by simp) (by rw[hn];exact hE 87 _ _ _ _ (by decide) (by simp) rfl rfl) (by(show List.length _≤_;simp[bN,bv,cu,dB,dZ,eo,d7,bO,bp,aW,cw,pUM,pM,cy,cB,cz,pSD,bq,bB])) (fun hk H i hi=>?_)
 have hx:=hv.x hk
 generalize v.d.drop (v.d.length-2)=x at hx ⊢
 exact⟨⟨_,Tryz.func306,rfl,rfl⟩,kd 207 [] v x _ (by simp) (fun H=>⟨⟨_,Tryz.func207,rfl,rfl⟩,Tm v x hv.mem hx H⟩) H i hi⟩
theorem R3(v:VVm)(x:List Int):aY v 85 [43,33] x=cu v (kG v x):=by kernel_rfl
theorem SR(v:VVm)(hv:bX v):ab Tryz.prog 52 [eVm v,i64 85] (tVm (doS v 85)):=by
 have hk:aU 85 (ao.getD (85:Int).toNat [])=2:=by kernel_rfl
 have hn:ao.getD (85:Int).toNat []=[43,33]:=by kernel_rfl
 rw[aE (by decide) (by decide),hk,hn,R3]
 refine aR v 85 2 306 [.row [fnP 209 []]] _ (by decide) (by decide) (by have:=hv.d;omega) hv.data (by decide) (by simp) (by rw[hn];exact hE 85 _ _ _ _ (by decide) (by simp) rfl rfl) (by(show List.length _≤_;simp[bN,bv,cu,dB,dZ,eo,d7,bO,bp,aW,cw,pUM,pM,cy,cB,cz,pSD,bq,bB])) (fun hk H i hi=>?_)
 have hx:=hv.x hk
 generalize v.d.drop (v.d.length-2)=x at hx ⊢
 exact⟨⟨_,Tryz.func306,rfl,rfl⟩,kd 209 [] v x _ (by simp) (fun H=>⟨⟨_,Tryz.func209,rfl,rfl⟩,TP v x hv.mem hx H⟩) H i hi⟩
theorem Sk(v:VVm)(x:List Int):aY v 88 [50,64] x=fH v x:=by kernel_rfl
theorem SY(v:VVm)(hv:bX v):ab Tryz.prog 52 [eVm v,i64 88] (tVm (doS v 88)):=by
 have hk:aU 88 (ao.getD (88:Int).toNat [])=1:=by kernel_rfl
 have hn:ao.getD (88:Int).toNat []=[50,64]:=by kernel_rfl
 rw[aE (by decide) (by decide),hk,hn,Sk]
 refine aR v 88 1 210 [] _ (by decide) (by decide) (by have:=hv.d;omega) hv.data (by decide) (by simp) (by rw[hn];exact hE 88 _ _ _ _ (by decide) (by simp) rfl rfl) (by unfold fH;split<;>simp) (fun hk H i hi=>?_)
 have hx:=hv.x hk
 generalize v.d.drop (v.d.length-1)=x at hx ⊢
 exact⟨⟨_,Tryz.func210,rfl,rfl⟩,To v x hv.mem hx H i hi⟩
theorem Sm(v:VVm)(x:List Int):aY v 89 [50,33] x=cu v (jb v x):=by kernel_rfl
theorem SN(v:VVm)(hv:bX v):ab Tryz.prog 52 [eVm v,i64 89] (tVm (doS v 89)):=by
 have hk:aU 89 (ao.getD (89:Int).toNat [])=3:=by kernel_rfl
 have hn:ao.getD (89:Int).toNat []=[50,33]:=by kernel_rfl
 rw[aE (by decide) (by decide),hk,hn,Sm]
 refine aR v 89 3 306 [.row [fnP 211 []]] _ (by decide) (by decide) (by have:=hv.d;omega) hv.data (by decide) (by simp) (by rw[hn];exact hE 89 _ _ _ _ (by decide) (by simp) rfl rfl) (by(show List.length _≤_;simp[bN,bv,cu,dB,dZ,eo,d7,bO,bp,aW,cw,pUM,pM,cy,cB,cz,pSD,bq,bB])) (fun hk H i hi=>?_)
 have hx:=hv.x hk
 generalize v.d.drop (v.d.length-3)=x at hx ⊢
 exact⟨⟨_,Tryz.func306,rfl,rfl⟩,kd 211 [] v x _ (by simp) (fun H=>⟨⟨_,Tryz.func211,rfl,rfl⟩,TG v x hv.mem hv.old hx H⟩) H i hi⟩
theorem RH(v:VVm)(x:List Int):aY v 90 [70,73,76,76] x=cu v (im v.mem (xat x 0) (xat x 1) (xat x 2)):=by kernel_rfl
theorem Rz(v:VVm)(hv:bX v):ab Tryz.prog 52 [eVm v,i64 90] (tVm (doS v 90)):=by
 have hk:aU 90 (ao.getD (90:Int).toNat [])=3:=by kernel_rfl
 have hn:ao.getD (90:Int).toNat []=[70,73,76,76]:=by kernel_rfl
 rw[aE (by decide) (by decide),hk,hn,RH]
 refine aR v 90 3 306 [.row [fnP 212 []]] _ (by decide) (by decide) (by have:=hv.d;omega) hv.data (by decide) (by simp) (by rw[hn];exact hE 90 _ _ _ _ (by decide) (by simp) rfl rfl) (by(show List.length _≤_;simp[bN,bv,cu,dB,dZ,eo,d7,bO,bp,aW,cw,pUM,pM,cy,cB,cz,pSD,bq,bB])) (fun hk H i hi=>?_)
 have hx:=hv.x hk
 generalize v.d.drop (v.d.length-3)=x at hx ⊢
 exact⟨⟨_,Tryz.func306,rfl,rfl⟩,kd 212 [] v x _ (by simp) (fun H=>⟨⟨_,Tryz.func212,rfl,rfl⟩,S7 v x hv.mem hx H⟩) H i hi⟩
theorem R2(v:VVm)(x:List Int):aY v 91 [77,79,86,69] x=cu v (ik v.mem (xat x 0) (xat x 1) (xat x 2)):=by kernel_rfl
theorem Se(v:VVm)(hv:bX v):ab Tryz.prog 52 [eVm v,i64 91] (tVm (doS v 91)):=by
 have hk:aU 91 (ao.getD (91:Int).toNat [])=3:=by kernel_rfl
 have hn:ao.getD (91:Int).toNat []=[77,79,86,69]:=by kernel_rfl
 rw[aE (by decide) (by decide),hk,hn,R2]
 refine aR v 91 3 306 [.row [fnP 214 []]] _ (by decide) (by decide) (by have:=hv.d;omega) hv.data (by decide) (by simp) (by rw[hn];exact hE 91 _ _ _ _ (by decide) (by simp) rfl rfl) (by(show List.length _≤_;simp[bN,bv,cu,dB,dZ,eo,d7,bO,bp,aW,cw,pUM,pM,cy,cB,cz,pSD,bq,bB])) (fun hk H i hi=>?_)
 have hx:=hv.x hk
 generalize v.d.drop (v.d.length-3)=x at hx ⊢
 exact⟨⟨_,Tryz.func306,rfl,rfl⟩,kd 214 [] v x _ (by simp) (fun H=>⟨⟨_,Tryz.func214,rfl,rfl⟩,Ts v x hv.mem hx H⟩) H i hi⟩
theorem RN(v:VVm)(x:List Int):aY v 92 [67,79,85,78,84] x=bO v x:=by kernel_rfl
theorem RZ(v:VVm)(hv:bX v):ab Tryz.prog 52 [eVm v,i64 92] (tVm (doS v 92)):=by
 have hk:aU 92 (ao.getD (92:Int).toNat [])=1:=by kernel_rfl
 have hn:ao.getD (92:Int).toNat []=[67,79,85,78,84]:=by kernel_rfl
 rw[aE (by decide) (by decide),hk,hn,RN]
 refine aR v 92 1 216 [] _ (by decide) (by decide) (by have:=hv.d;omega) hv.data (by decide) (by simp) (by rw[hn];exact hE 92 _ _ _ _ (by decide) (by simp) rfl rfl) (by(show List.length _≤_;simp[bN,bv,cu,dB,dZ,eo,d7,bO,bp,aW,cw,pUM,pM,cy,cB,cz,pSD,bq,bB])) (fun hk H i hi=>?_)
 have hx:=hv.x hk
 generalize v.d.drop (v.d.length-1)=x at hx ⊢
 exact⟨⟨_,Tryz.func216,rfl,rfl⟩,TJ v x hv.mem hx H i hi⟩
theorem R7(v:VVm)(x:List Int):aY v 93 [72,69,82,69] x=(v,[v.here],0):=by kernel_rfl
theorem RP(v:VVm)(hv:bX v):ab Tryz.prog 52 [eVm v,i64 93] (tVm (doS v 93)):=by
 have hk:aU 93 (ao.getD (93:Int).toNat [])=0:=by kernel_rfl
 have hn:ao.getD (93:Int).toNat []=[72,69,82,69]:=by kernel_rfl
 rw[aE (by decide) (by decide),hk,hn,R7]
 refine aR v 93 0 309 [.row [fnP 223 []]] _ (by decide) (by decide) (by have:=hv.d;omega) hv.data (by decide) (by simp) (by rw[hn];exact fT 93 _ _ _ _ (by decide) (by simp) rfl rfl rfl) (by(show List.length _≤_;simp[bN,bv,cu,dB,dZ,eo,d7,bO,bp,aW,cw,pUM,pM,cy,cB,cz,pSD,bq,bB])) (fun hk H i hi=>?_)
 have hx:=hv.x hk
 generalize v.d.drop (v.d.length-0)=x at hx ⊢
 exact⟨⟨_,Tryz.func309,rfl,rfl⟩,j8 223 [] v x _ (by simp) (fun H=>⟨⟨_,Tryz.func223,rfl,rfl⟩,Tg v H⟩) H i hi⟩
theorem Sf(v:VVm)(x:List Int):aY v 94 [65,76,76,79,84] x=dB v (pj v x):=by kernel_rfl
theorem Sx(v:VVm)(hv:bX v):ab Tryz.prog 52 [eVm v,i64 94] (tVm (doS v 94)):=by
 have hk:aU 94 (ao.getD (94:Int).toNat [])=1:=by kernel_rfl
 have hn:ao.getD (94:Int).toNat []=[65,76,76,79,84]:=by kernel_rfl
 rw[aE (by decide) (by decide),hk,hn,Sf]
 refine aR v 94 1 310 [.row [fnP 225 []]] _ (by decide) (by decide) (by have:=hv.d;omega) hv.data (by decide) (by simp) (by rw[hn];exact fT 94 _ _ _ _ (by decide) (by simp) rfl rfl rfl) (by(show List.length _≤_;simp[bN,bv,cu,dB,dZ,eo,d7,bO,bp,aW,cw,pUM,pM,cy,cB,cz,pSD,bq,bB])) (fun hk H i hi=>?_)
 have hx:=hv.x hk
 generalize v.d.drop (v.d.length-1)=x at hx ⊢
 exact⟨⟨_,Tryz.func310,rfl,rfl⟩,yk 225 [] v x _ (by simp) (fun H=>⟨⟨_,Tryz.func225,rfl,rfl⟩,TR v x hv.mem hv.here hx H⟩) H i hi⟩
theorem Sl(v:VVm)(x:List Int):aY v 95 [44] x=dB v (gf v.mem v.here (xat x 0)):=by kernel_rfl
theorem Sw(v:VVm)(hv:bX v):ab Tryz.prog 52 [eVm v,i64 95] (tVm (doS v 95)):=by
 have hk:aU 95 (ao.getD (95:Int).toNat [])=1:=by kernel_rfl
 have hn:ao.getD (95:Int).toNat []=[44]:=by kernel_rfl
 rw[aE (by decide) (by decide),hk,hn,Sl]
 refine aR v 95 1 310 [.row [fnP 228 []]] _ (by decide) (by decide) (by have:=hv.d;omega) hv.data (by decide) (by simp) (by rw[hn];exact fT 95 _ _ _ _ (by decide) (by simp) rfl rfl rfl) (by(show List.length _≤_;simp[bN,bv,cu,dB,dZ,eo,d7,bO,bp,aW,cw,pUM,pM,cy,cB,cz,pSD,bq,bB])) (fun hk H i hi=>?_)
 have hx:=hv.x hk
 generalize v.d.drop (v.d.length-1)=x at hx ⊢
 exact⟨⟨_,Tryz.func310,rfl,rfl⟩,yk 228 [] v x _ (by simp) (fun H=>⟨⟨_,Tryz.func228,rfl,rfl⟩,Tl v x hv.mem hv.here hx H⟩) H i hi⟩
theorem Sd(v:VVm)(x:List Int):aY v 96 [67,44] x=dB v (gl v.mem v.here [loB (xat x 0)]):=by kernel_rfl
theorem Rx(v:VVm)(hv:bX v):ab Tryz.prog 52 [eVm v,i64 96] (tVm (doS v 96)):=by
 have hk:aU 96 (ao.getD (96:Int).toNat [])=1:=by kernel_rfl
 have hn:ao.getD (96:Int).toNat []=[67,44]:=by kernel_rfl
 rw[aE (by decide) (by decide),hk,hn,Sd]
 refine aR v 96 1 310 [.row [fnP 230 []]] _ (by decide) (by decide) (by have:=hv.d;omega) hv.data (by decide) (by simp) (by rw[hn];exact fT 96 _ _ _ _ (by decide) (by simp) rfl rfl rfl) (by(show List.length _≤_;simp[bN,bv,cu,dB,dZ,eo,d7,bO,bp,aW,cw,pUM,pM,cy,cB,cz,pSD,bq,bB])) (fun hk H i hi=>?_)
 have hx:=hv.x hk
 generalize v.d.drop (v.d.length-1)=x at hx ⊢
 exact⟨⟨_,Tryz.func310,rfl,rfl⟩,yk 230 [] v x _ (by simp) (fun H=>⟨⟨_,Tryz.func230,rfl,rfl⟩,S6 v x hv.mem hv.here hx H⟩) H i hi⟩
theorem RM(v:VVm)(x:List Int):aY v 97 [65,76,73,71,78] x=dB v (l5 v.mem v.here):=by kernel_rfl
theorem SX(v:VVm)(hv:bX v):ab Tryz.prog 52 [eVm v,i64 97] (tVm (doS v 97)):=by
 have hk:aU 97 (ao.getD (97:Int).toNat [])=0:=by kernel_rfl
 have hn:ao.getD (97:Int).toNat []=[65,76,73,71,78]:=by kernel_rfl
 rw[aE (by decide) (by decide),hk,hn,RM]
 refine aR v 97 0 310 [.row [fnP 232 []]] _ (by decide) (by decide) (by have:=hv.d;omega) hv.data (by decide) (by simp) (by rw[hn];exact fT 97 _ _ _ _ (by decide) (by simp) rfl rfl rfl) (by(show List.length _≤_;simp[bN,bv,cu,dB,dZ,eo,d7,bO,bp,aW,cw,pUM,pM,cy,cB,cz,pSD,bq,bB])) (fun hk H i hi=>?_)
 have hx:=hv.x hk
 generalize v.d.drop (v.d.length-0)=x at hx ⊢
 exact⟨⟨_,Tryz.func310,rfl,rfl⟩,yk 232 [] v x _ (by simp) (fun H=>⟨⟨_,Tryz.func232,rfl,rfl⟩,Tj v x hv.mem hv.here H⟩) H i hi⟩
theorem SI(v:VVm)(x:List Int):aY v 98 [66,65,83,69] x=(v,[0],0):=by kernel_rfl
theorem RJ(v:VVm)(hv:bX v):ab Tryz.prog 52 [eVm v,i64 98] (tVm (doS v 98)):=by
 have hk:aU 98 (ao.getD (98:Int).toNat [])=0:=by kernel_rfl
 have hn:ao.getD (98:Int).toNat []=[66,65,83,69]:=by kernel_rfl
 rw[aE (by decide) (by decide),hk,hn,SI]
 refine aR v 98 0 309 [.row [fnP 222 [.row [i64 (0)]]]] _ (by decide) (by decide) (by have:=hv.d;omega) hv.data (by decide) (by simp) (by rw[hn];exact fT 98 _ _ _ _ (by decide) (by simp) rfl rfl rfl) (by(show List.length _≤_;simp[bN,bv,cu,dB,dZ,eo,d7,bO,bp,aW,cw,pUM,pM,cy,cB,cz,pSD,bq,bB])) (fun hk H i hi=>?_)
 have hx:=hv.x hk
 generalize v.d.drop (v.d.length-0)=x at hx ⊢
 exact⟨⟨_,Tryz.func309,rfl,rfl⟩,j8 222 [.row [i64 (0)]] v x (0) (by simp) (fun H=>⟨⟨_,Tryz.func222,rfl,rfl⟩,nV v (0) H⟩) H i hi⟩
theorem Sv(v:VVm)(x:List Int):aY v 99 [83,84,65,84,69] x=(v,[8],0):=by kernel_rfl
theorem SO(v:VVm)(hv:bX v):ab Tryz.prog 52 [eVm v,i64 99] (tVm (doS v 99)):=by
 have hk:aU 99 (ao.getD (99:Int).toNat [])=0:=by kernel_rfl
 have hn:ao.getD (99:Int).toNat []=[83,84,65,84,69]:=by kernel_rfl
 rw[aE (by decide) (by decide),hk,hn,Sv]
 refine aR v 99 0 309 [.row [fnP 222 [.row [i64 (8)]]]] _ (by decide) (by decide) (by have:=hv.d;omega) hv.data (by decide) (by simp) (by rw[hn];exact fT 99 _ _ _ _ (by decide) (by simp) rfl rfl rfl) (by(show List.length _≤_;simp[bN,bv,cu,dB,dZ,eo,d7,bO,bp,aW,cw,pUM,pM,cy,cB,cz,pSD,bq,bB])) (fun hk H i hi=>?_)
 have hx:=hv.x hk
 generalize v.d.drop (v.d.length-0)=x at hx ⊢
 exact⟨⟨_,Tryz.func309,rfl,rfl⟩,j8 222 [.row [i64 (8)]] v x (8) (by simp) (fun H=>⟨⟨_,Tryz.func222,rfl,rfl⟩,nV v (8) H⟩) H i hi⟩
theorem QC(v:VVm)(x:List Int):aY v 100 [84,82,85,69] x=(v,[-1],0):=by kernel_rfl
theorem Ps(v:VVm)(hv:bX v):ab Tryz.prog 52 [eVm v,i64 100] (tVm (doS v 100)):=by
 have hk:aU 100 (ao.getD (100:Int).toNat [])=0:=by kernel_rfl
 have hn:ao.getD (100:Int).toNat []=[84,82,85,69]:=by kernel_rfl
 rw[aE (by decide) (by decide),hk,hn,QC]
 refine aR v 100 0 309 [.row [fnP 222 [.row [i64 (-1)]]]] _ (by decide) (by decide) (by have:=hv.d;omega) hv.data (by decide) (by simp) (by rw[hn];exact fT 100 _ _ _ _ (by decide) (by simp) rfl rfl rfl) (by(show List.length _≤_;simp[bN,bv,cu,dB,dZ,eo,d7,bO,bp,aW,cw,pUM,pM,cy,cB,cz,pSD,bq,bB])) (fun hk H i hi=>?_)
 have hx:=hv.x hk
 generalize v.d.drop (v.d.length-0)=x at hx ⊢
 exact⟨⟨_,Tryz.func309,rfl,rfl⟩,j8 222 [.row [i64 (-1)]] v x (-1) (by simp) (fun H=>⟨⟨_,Tryz.func222,rfl,rfl⟩,nV v (-1) H⟩) H i hi⟩
theorem OR(v:VVm)(x:List Int):aY v 101 [70,65,76,83,69] x=(v,[0],0):=by kernel_rfl
theorem PX(v:VVm)(hv:bX v):ab Tryz.prog 52 [eVm v,i64 101] (tVm (doS v 101)):=by
 have hk:aU 101 (ao.getD (101:Int).toNat [])=0:=by kernel_rfl
 have hn:ao.getD (101:Int).toNat []=[70,65,76,83,69]:=by kernel_rfl
 rw[aE (by decide) (by decide),hk,hn,OR]
 refine aR v 101 0 309 [.row [fnP 222 [.row [i64 (0)]]]] _ (by decide) (by decide) (by have:=hv.d;omega) hv.data (by decide) (by simp) (by rw[hn];exact fT 101 _ _ _ _ (by decide) (by simp) rfl rfl rfl) (by(show List.length _≤_;simp[bN,bv,cu,dB,dZ,eo,d7,bO,bp,aW,cw,pUM,pM,cy,cB,cz,pSD,bq,bB])) (fun hk H i hi=>?_)
 have hx:=hv.x hk
 generalize v.d.drop (v.d.length-0)=x at hx ⊢
 exact⟨⟨_,Tryz.func309,rfl,rfl⟩,j8 222 [.row [i64 (0)]] v x (0) (by simp) (fun H=>⟨⟨_,Tryz.func222,rfl,rfl⟩,nV v (0) H⟩) H i hi⟩
theorem Ol(v:VVm)(x:List Int):aY v 102 [66,76] x=(v,[32],0):=by kernel_rfl
theorem Qn(v:VVm)(hv:bX v):ab Tryz.prog 52 [eVm v,i64 102] (tVm (doS v 102)):=by
 have hk:aU 102 (ao.getD (102:Int).toNat [])=0:=by kernel_rfl
 have hn:ao.getD (102:Int).toNat []=[66,76]:=by kernel_rfl
 rw[aE (by decide) (by decide),hk,hn,Ol]
 refine aR v 102 0 309 [.row [fnP 222 [.row [i64 (32)]]]] _ (by decide) (by decide) (by have:=hv.d;omega) hv.data (by decide) (by simp) (by rw[hn];exact fT 102 _ _ _ _ (by decide) (by simp) rfl rfl rfl) (by(show List.length _≤_;simp[bN,bv,cu,dB,dZ,eo,d7,bO,bp,aW,cw,pUM,pM,cy,cB,cz,pSD,bq,bB])) (fun hk H i hi=>?_)
 have hx:=hv.x hk
 generalize v.d.drop (v.d.length-0)=x at hx ⊢
 exact⟨⟨_,Tryz.func309,rfl,rfl⟩,j8 222 [.row [i64 (32)]] v x (32) (by simp) (fun H=>⟨⟨_,Tryz.func222,rfl,rfl⟩,nV v (32) H⟩) H i hi⟩
theorem Pq(v:VVm)(x:List Int):aY v 103 [68,69,67,73,77,65,76] x=cu v (aG v.mem 0 10):=by kernel_rfl
theorem Oy(v:VVm)(hv:bX v):ab Tryz.prog 52 [eVm v,i64 103] (tVm (doS v 103)):=by
 have hk:aU 103 (ao.getD (103:Int).toNat [])=0:=by kernel_rfl
 have hn:ao.getD (103:Int).toNat []=[68,69,67,73,77,65,76]:=by kernel_rfl
 rw[aE (by decide) (by decide),hk,hn,Pq]
 refine aR v 103 0 218 [.row [i64 10]] _ (by decide) (by decide) (by have:=hv.d;omega) hv.data (by decide) (by simp) (by rw[hn];exact fT 103 _ _ _ _ (by decide) (by simp) rfl rfl rfl) (by(show List.length _≤_;simp[bN,bv,cu,dB,dZ,eo,d7,bO,bp,aW,cw,pUM,pM,cy,cB,cz,pSD,bq,bB])) (fun hk H i hi=>?_)
 have hx:=hv.x hk
 generalize v.d.drop (v.d.length-0)=x at hx ⊢
 exact⟨⟨_,Tryz.func218,rfl,rfl⟩,JN v x 10 hv.mem H i hi⟩
theorem Qb(v:VVm)(x:List Int):aY v 104 [72,69,88] x=cu v (aG v.mem 0 16):=by kernel_rfl
theorem OL(v:VVm)(hv:bX v):ab Tryz.prog 52 [eVm v,i64 104] (tVm (doS v 104)):=by
 have hk:aU 104 (ao.getD (104:Int).toNat [])=0:=by kernel_rfl
 have hn:ao.getD (104:Int).toNat []=[72,69,88]:=by kernel_rfl
 rw[aE (by decide) (by decide),hk,hn,Qb]
 refine aR v 104 0 218 [.row [i64 16]] _ (by decide) (by decide) (by have:=hv.d;omega) hv.data (by decide) (by simp) (by rw[hn];exact fT 104 _ _ _ _ (by decide) (by simp) rfl rfl rfl) (by(show List.length _≤_;simp[bN,bv,cu,dB,dZ,eo,d7,bO,bp,aW,cw,pUM,pM,cy,cB,cz,pSD,bq,bB])) (fun hk H i hi=>?_)
 have hx:=hv.x hk
 generalize v.d.drop (v.d.length-0)=x at hx ⊢
 exact⟨⟨_,Tryz.func218,rfl,rfl⟩,JN v x 16 hv.mem H i hi⟩
theorem O9(v:VVm)(x:List Int):aY v 105 [69,77,73,84] x=cZ v ([loB (xat x 0)],0):=by kernel_rfl
theorem OU(v:VVm)(hv:bX v):ab Tryz.prog 52 [eVm v,i64 105] (tVm (doS v 105)):=by
 have hk:aU 105 (ao.getD (105:Int).toNat [])=1:=by kernel_rfl
 have hn:ao.getD (105:Int).toNat []=[69,77,73,84]:=by kernel_rfl
 rw[aE (by decide) (by decide),hk,hn,O9]
 refine aR v 105 1 312 [.row [fnP 240 []]] _ (by decide) (by decide) (by have:=hv.d;omega) hv.data (by decide) (by simp) (by rw[hn];exact kD 105 _ _ _ _ (by decide) (by simp) rfl rfl rfl rfl) (by unfold cZ;split<;>simp) (fun hk H i hi=>?_)
 have hx:=hv.x hk
 generalize v.d.drop (v.d.length-1)=x at hx ⊢
 exact⟨⟨_,Tryz.func312,rfl,rfl⟩,qb 240 [] v x ([loB (xat x 0)],0) hv.out1 hv.out (by simp) (by simp) (fun H=>⟨⟨_,Tryz.func240,rfl,rfl⟩,TM v x hx H⟩) H i hi⟩
theorem P7(v:VVm)(x:List Int):aY v 106 [67,82] x=cZ v ([10],0):=by kernel_rfl
theorem Qu(v:VVm)(hv:bX v):ab Tryz.prog 52 [eVm v,i64 106] (tVm (doS v 106)):=by
 have hk:aU 106 (ao.getD (106:Int).toNat [])=0:=by kernel_rfl
 have hn:ao.getD (106:Int).toNat []=[67,82]:=by kernel_rfl
 rw[aE (by decide) (by decide),hk,hn,P7]
 refine aR v 106 0 312 [.row [fnP 239 [.row [str [10]]]]] _ (by decide) (by decide) (by have:=hv.d;omega) hv.data (by decide) (by simp) (by rw[hn];exact kD 106 _ _ _ _ (by decide) (by simp) rfl rfl rfl rfl) (by unfold cZ;split<;>simp) (fun hk H i hi=>?_)
 have hx:=hv.x hk
 generalize v.d.drop (v.d.length-0)=x at hx ⊢
 exact⟨⟨_,Tryz.func312,rfl,rfl⟩,qb 239 [.row [str [10]]] v x ([10],0) hv.out1 hv.out (by simp) (by simp) (fun H=>⟨⟨_,Tryz.func239,rfl,rfl⟩,KO [10] v x H⟩) H i hi⟩
theorem PD(v:VVm)(x:List Int):aY v 107 [83,80,65,67,69] x=cZ v ([32],0):=by kernel_rfl
theorem QH(v:VVm)(hv:bX v):ab Tryz.prog 52 [eVm v,i64 107] (tVm (doS v 107)):=by
 have hk:aU 107 (ao.getD (107:Int).toNat [])=0:=by kernel_rfl
 have hn:ao.getD (107:Int).toNat []=[83,80,65,67,69]:=by kernel_rfl
 rw[aE (by decide) (by decide),hk,hn,PD]
 refine aR v 107 0 312 [.row [fnP 239 [.row [str [32]]]]] _ (by decide) (by decide) (by have:=hv.d;omega) hv.data (by decide) (by simp) (by rw[hn];exact kD 107 _ _ _ _ (by decide) (by simp) rfl rfl rfl rfl) (by unfold cZ;split<;>simp) (fun hk H i hi=>?_)
 have hx:=hv.x hk
 generalize v.d.drop (v.d.length-0)=x at hx ⊢
 exact⟨⟨_,Tryz.func312,rfl,rfl⟩,qb 239 [.row [str [32]]] v x ([32],0) hv.out1 hv.out (by simp) (by simp) (fun H=>⟨⟨_,Tryz.func239,rfl,rfl⟩,KO [32] v x H⟩) H i hi⟩
theorem PB(v:VVm)(x:List Int):aY v 108 [83,80,65,67,69,83] x=cZ v (j6 v x,0):=by kernel_rfl
theorem Om(v:VVm)(hv:bX v):ab Tryz.prog 52 [eVm v,i64 108] (tVm (doS v 108)):=by
 have hk:aU 108 (ao.getD (108:Int).toNat [])=1:=by kernel_rfl
 have hn:ao.getD (108:Int).toNat []=[83,80,65,67,69,83]:=by kernel_rfl
 rw[aE (by decide) (by decide),hk,hn,PB]
 refine aR v 108 1 312 [.row [fnP 241 []]] _ (by decide) (by decide) (by have:=hv.d;omega) hv.data (by decide) (by simp) (by rw[hn];exact kD 108 _ _ _ _ (by decide) (by simp) rfl rfl rfl rfl) (by unfold cZ;split<;>simp) (fun hk H i hi=>?_)
 have hx:=hv.x hk
 generalize v.d.drop (v.d.length-1)=x at hx ⊢
 exact⟨⟨_,Tryz.func312,rfl,rfl⟩,qb 241 [] v x (j6 v x,0) hv.out1 hv.out (by have:=hv.out2;simp only[j6,List.length_replicate];omega) (by simp) (fun H=>⟨⟨_,Tryz.func241,rfl,rfl⟩,Tf v x hv.out2 hx H⟩) H i hi⟩
theorem Oh(v:VVm)(x:List Int):aY v 109 [84,89,80,69] x=cZ v (bT v.mem (xat x 0) (xat x 1)):=by kernel_rfl
theorem OP(v:VVm)(hv:bX v):ab Tryz.prog 52 [eVm v,i64 109] (tVm (doS v 109)):=by
 have hk:aU 109 (ao.getD (109:Int).toNat [])=2:=by kernel_rfl
 have hn:ao.getD (109:Int).toNat []=[84,89,80,69]:=by kernel_rfl
 rw[aE (by decide) (by decide),hk,hn,Oh]
 refine aR v 109 2 312 [.row [fnP 243 []]] _ (by decide) (by decide) (by have:=hv.d;omega) hv.data (by decide) (by simp) (by rw[hn];exact kD 109 _ _ _ _ (by decide) (by simp) rfl rfl rfl rfl) (by unfold cZ;split<;>simp) (fun hk H i hi=>?_)
 have hx:=hv.x hk
 generalize v.d.drop (v.d.length-2)=x at hx ⊢
 exact⟨⟨_,Tryz.func312,rfl,rfl⟩,qb 243 [] v x (bT v.mem (xat x 0) (xat x 1)) hv.out1 hv.out (by have:=qM v.mem (xat x 0) (xat x 1);have:=hv.mem.b;omega) (by simp) (fun H=>⟨⟨_,Tryz.func243,rfl,rfl⟩,Tk v x hv.mem hx H⟩) H i hi⟩
theorem Pi(v:VVm)(x:List Int):aY v 110 [46] x=cZ v (uU (fX (xat x 0) (eO v))):=by kernel_rfl
theorem Qe(v:VVm)(hv:bX v):ab Tryz.prog 52 [eVm v,i64 110] (tVm (doS v 110)):=by
 have hk:aU 110 (ao.getD (110:Int).toNat [])=1:=by kernel_rfl
 have hn:ao.getD (110:Int).toNat []=[46]:=by kernel_rfl
 rw[aE (by decide) (by decide),hk,hn,Pi]
 refine aR v 110 1 312 [.row [fnP 236 [.row [fnP 244 []]]]] _ (by decide) (by decide) (by have:=hv.d;omega) hv.data (by decide) (by simp) (by rw[hn];exact kD 110 _ _ _ _ (by decide) (by simp) rfl rfl rfl rfl) (by unfold cZ;split<;>simp) (fun hk H i hi=>?_)
 have hx:=hv.x hk
 generalize v.d.drop (v.d.length-1)=x at hx ⊢
 exact⟨⟨_,Tryz.func312,rfl,rfl⟩,qb 236 [.row [fnP 244 []]] v x (uU (fX (xat x 0) (eO v))) hv.out1 hv.out (by have:=oR (xat x 0) (eO v);simp only[uU,List.length_append,List.length_singleton];omega) (by simp) (fun H=>⟨⟨_,Tryz.func236,rfl,rfl⟩,za 244 [] v x (fX (xat x 0) (eO v)) hx.len (eK hv.mem) (by have:=oR (xat x 0) (eO v);omega) (by simp) (fun H=>⟨⟨_,Tryz.func244,rfl,rfl⟩,Oo _ _ (hx.fit 0) H⟩) H⟩) H i hi⟩
theorem PE(v:VVm)(x:List Int):aY v 111 [85,46] x=cZ v (uU (cJ (xat x 0) (eO v))):=by kernel_rfl
theorem PR(v:VVm)(hv:bX v):ab Tryz.prog 52 [eVm v,i64 111] (tVm (doS v 111)):=by
 have hk:aU 111 (ao.getD (111:Int).toNat [])=1:=by kernel_rfl
 have hn:ao.getD (111:Int).toNat []=[85,46]:=by kernel_rfl
 rw[aE (by decide) (by decide),hk,hn,PE]
 refine aR v 111 1 312 [.row [fnP 236 [.row [fnP 245 []]]]] _ (by decide) (by decide) (by have:=hv.d;omega) hv.data (by decide) (by simp) (by rw[hn];exact kD 111 _ _ _ _ (by decide) (by simp) rfl rfl rfl rfl) (by unfold cZ;split<;>simp) (fun hk H i hi=>?_)
 have hx:=hv.x hk
 generalize v.d.drop (v.d.length-1)=x at hx ⊢
 exact⟨⟨_,Tryz.func312,rfl,rfl⟩,qb 236 [.row [fnP 245 []]] v x (uU (cJ (xat x 0) (eO v))) hv.out1 hv.out (by have:=mO (xat x 0) (eO v);simp only[uU,List.length_append,List.length_singleton];omega) (by simp) (fun H=>⟨⟨_,Tryz.func236,rfl,rfl⟩,za 245 [] v x (cJ (xat x 0) (eO v)) hx.len (eK hv.mem) (by have:=mO (xat x 0) (eO v);omega) (by simp) (fun H=>⟨⟨_,Tryz.func245,rfl,rfl⟩,LA _ _ (hx.fit 0) H⟩) H⟩) H i hi⟩
theorem Qy(v:VVm)(x:List Int):aY v 112 [60,35] x=(o8 v ⟨[],true⟩,[],0):=by kernel_rfl
theorem QA(v:VVm)(hv:bX v):ab Tryz.prog 52 [eVm v,i64 112] (tVm (doS v 112)):=by
 have hk:aU 112 (ao.getD (112:Int).toNat [])=0:=by kernel_rfl
 have hn:ao.getD (112:Int).toNat []=[60,35]:=by kernel_rfl
 rw[aE (by decide) (by decide),hk,hn,Qy]
 refine aR v 112 0 248 [] _ (by decide) (by decide) (by have:=hv.d;omega) hv.data (by decide) (by simp) (by rw[hn];exact me 112 _ _ _ _ (by decide) (by simp) rfl rfl rfl rfl rfl) (by(show List.length _≤_;simp[bN,bv,cu,dB,dZ,eo,d7,bO,bp,aW,cw,pUM,pM,cy,cB,cz,pSD,bq,bB])) (fun hk H i hi=>?_)
 have hx:=hv.x hk
 generalize v.d.drop (v.d.length-0)=x at hx ⊢
 exact⟨⟨_,Tryz.func248,rfl,rfl⟩,Th v x H i hi⟩
theorem Px(v:VVm)(x:List Int):aY v 113 [35] x=eo v x:=by kernel_rfl
theorem Pa(v:VVm)(hv:bX v):ab Tryz.prog 52 [eVm v,i64 113] (tVm (doS v 113)):=by
 have hk:aU 113 (ao.getD (113:Int).toNat [])=2:=by kernel_rfl
 have hn:ao.getD (113:Int).toNat []=[35]:=by kernel_rfl
 rw[aE (by decide) (by decide),hk,hn,Px]
 refine aR v 113 2 250 [] _ (by decide) (by decide) (by have:=hv.d;omega) hv.data (by decide) (by simp) (by rw[hn];exact me 113 _ _ _ _ (by decide) (by simp) rfl rfl rfl rfl rfl) (by(show List.length _≤_;simp[bN,bv,cu,dB,dZ,eo,d7,bO,bp,aW,cw,pUM,pM,cy,cB,cz,pSD,bq,bB])) (fun hk H i hi=>?_)
 have hx:=hv.x hk
 generalize v.d.drop (v.d.length-2)=x at hx ⊢
 exact⟨⟨_,Tryz.func250,rfl,rfl⟩,TK v x hv.pic (eK hv.mem) hx H i hi⟩
theorem Pn(v:VVm)(x:List Int):aY v 114 [35,83] x=d7 v x:=by kernel_rfl
theorem Pv(v:VVm)(hv:bX v):ab Tryz.prog 52 [eVm v,i64 114] (tVm (doS v 114)):=by
 have hk:aU 114 (ao.getD (114:Int).toNat [])=2:=by kernel_rfl
 have hn:ao.getD (114:Int).toNat []=[35,83]:=by kernel_rfl
 rw[aE (by decide) (by decide),hk,hn,Pn]
 refine aR v 114 2 252 [] _ (by decide) (by decide) (by have:=hv.d;omega) hv.data (by decide) (by simp) (by rw[hn];exact me 114 _ _ _ _ (by decide) (by simp) rfl rfl rfl rfl rfl) (by(show List.length _≤_;simp[bN,bv,cu,dB,dZ,eo,d7,bO,bp,aW,cw,pUM,pM,cy,cB,cz,pSD,bq,bB])) (fun hk H i hi=>?_)
 have hx:=hv.x hk
 generalize v.d.drop (v.d.length-2)=x at hx ⊢
 exact⟨⟨_,Tryz.func252,rfl,rfl⟩,TE v x hv.pic (eK hv.mem) hx H i hi⟩
theorem OG(v:VVm)(x:List Int):aY v 115 [72,79,76,68] x=dZ v (eT v.pic (xat x 0)):=by kernel_rfl
theorem Ou(v:VVm)(hv:bX v):ab Tryz.prog 52 [eVm v,i64 115] (tVm (doS v 115)):=by
 have hk:aU 115 (ao.getD (115:Int).toNat [])=1:=by kernel_rfl
 have hn:ao.getD (115:Int).toNat []=[72,79,76,68]:=by kernel_rfl
 rw[aE (by decide) (by decide),hk,hn,OG]
 refine aR v 115 1 247 [.row [fnP 254 []]] _ (by decide) (by decide) (by have:=hv.d;omega) hv.data (by decide) (by simp) (by rw[hn];exact me 115 _ _ _ _ (by decide) (by simp) rfl rfl rfl rfl rfl) (by(show List.length _≤_;simp[bN,bv,cu,dB,dZ,eo,d7,bO,bp,aW,cw,pUM,pM,cy,cB,cz,pSD,bq,bB])) (fun hk H i hi=>?_)
 have hx:=hv.x hk
 generalize v.d.drop (v.d.length-1)=x at hx ⊢
 exact⟨⟨_,Tryz.func247,rfl,rfl⟩,Od 254 [] v x _ hx.len (by simp) (fun H=>⟨⟨_,Tryz.func254,rfl,rfl⟩,vn v.pic _ hv.pic H⟩) H i hi⟩
theorem PM(v:VVm)(x:List Int):aY v 116 [83,73,71,78] x=dZ v (iZ v.pic (xat x 0)):=by kernel_rfl
theorem QI(v:VVm)(hv:bX v):ab Tryz.prog 52 [eVm v,i64 116] (tVm (doS v 116)):=by
 have hk:aU 116 (ao.getD (116:Int).toNat [])=1:=by kernel_rfl
 have hn:ao.getD (116:Int).toNat []=[83,73,71,78]:=by kernel_rfl
 rw[aE (by decide) (by decide),hk,hn,PM]
 refine aR v 116 1 247 [.row [fnP 255 []]] _ (by decide) (by decide) (by have:=hv.d;omega) hv.data (by decide) (by simp) (by rw[hn];exact me 116 _ _ _ _ (by decide) (by simp) rfl rfl rfl rfl rfl) (by(show List.length _≤_;simp[bN,bv,cu,dB,dZ,eo,d7,bO,bp,aW,cw,pUM,pM,cy,cB,cz,pSD,bq,bB])) (fun hk H i hi=>?_)
 have hx:=hv.x hk
 generalize v.d.drop (v.d.length-1)=x at hx ⊢
 exact⟨⟨_,Tryz.func247,rfl,rfl⟩,Od 255 [] v x _ hx.len (by simp) (fun H=>⟨⟨_,Tryz.func255,rfl,rfl⟩,I2 v.pic _ hv.pic H⟩) H i hi⟩
theorem O7(v:VVm)(x:List Int):aY v 117 [35,62] x=nH v:=by kernel_rfl
theorem Pg(v:VVm)(hv:bX v):ab Tryz.prog 52 [eVm v,i64 117] (tVm (doS v 117)):=by
 have hk:aU 117 (ao.getD (117:Int).toNat [])=2:=by kernel_rfl
 have hn:ao.getD (117:Int).toNat []=[35,62]:=by kernel_rfl
 rw[aE (by decide) (by decide),hk,hn,O7]
 refine aR v 117 2 256 [] _ (by decide) (by decide) (by have:=hv.d;omega) hv.data (by decide) (by simp) (by rw[hn];exact me 117 _ _ _ _ (by decide) (by simp) rfl rfl rfl rfl rfl) (by unfold nH;split<;>simp) (fun hk H i hi=>?_)
 have hx:=hv.x hk
 generalize v.d.drop (v.d.length-2)=x at hx ⊢
 exact⟨⟨_,Tryz.func256,rfl,rfl⟩,Tw v x hv.pic hv.mem H i hi⟩
theorem OE(v:VVm)(x:List Int):aY v 118 [62,66,79,68,89] x=kz v x:=by kernel_rfl
theorem Ox(v:VVm)(hv:bX v):ab Tryz.prog 52 [eVm v,i64 118] (tVm (doS v 118)):=by
 have hk:aU 118 (ao.getD (118:Int).toNat [])=1:=by kernel_rfl
 have hn:ao.getD (118:Int).toNat []=[62,66,79,68,89]:=by kernel_rfl
 rw[aE (by decide) (by decide),hk,hn,OE]
 rw[←EU (r':=(v,bB v (v.d.drop (v.d.length-1)))) (FB v _) (Md v _)]
 refine aR v 118 1 259 [] _ (by decide) (by decide) (by have:=hv.d;omega) hv.data (by decide) (by simp) (by rw[hn];exact fQ 118 _ _ _ _ (by decide) (by simp) rfl rfl rfl rfl rfl rfl) (by(show List.length _≤_;simp[bN,bv,cu,dB,dZ,eo,d7,bO,bp,aW,cw,pUM,pM,cy,cB,cz,pSD,bq,bB])) (fun hk H i hi=>?_)
 have hx:=hv.x hk
 generalize v.d.drop (v.d.length-1)=x at hx ⊢
 exact⟨⟨_,Tryz.func259,rfl,rfl⟩,Ty v x (eK hv.mem) hx H i hi⟩
theorem P0(v:VVm)(x:List Int):aY v 119 [65,66,79,82,84] x=(v,[],-1):=by kernel_rfl
theorem OW(v:VVm)(hv:bX v):ab Tryz.prog 52 [eVm v,i64 119] (tVm (doS v 119)):=by
 have hk:aU 119 (ao.getD (119:Int).toNat [])=0:=by kernel_rfl
 have hn:ao.getD (119:Int).toNat []=[65,66,79,82,84]:=by kernel_rfl
 rw[aE (by decide) (by decide),hk,hn,P0]
 refine aR v 119 0 178 [.row [fnP 260 []]] _ (by decide) (by decide) (by have:=hv.d;omega) hv.data (by decide) (by simp) (by rw[hn];exact fQ 119 _ _ _ _ (by decide) (by simp) rfl rfl rfl rfl rfl rfl) (by(show List.length _≤_;simp[bN,bv,cu,dB,dZ,eo,d7,bO,bp,aW,cw,pUM,pM,cy,cB,cz,pSD,bq,bB])) (fun hk H i hi=>?_)
 have hx:=hv.x hk
 generalize v.d.drop (v.d.length-0)=x at hx ⊢
 exact⟨⟨_,Tryz.func178,rfl,rfl⟩,jx 260 [] v x (v,[],-1).2 (by simp) (fun H=>⟨⟨_,Tryz.func260,rfl,rfl⟩,TA x H⟩) H i hi⟩
theorem Pp(v:VVm)(x:List Int):aY v 120 [80,79,83,84] x=ex v x:=by kernel_rfl
theorem O3(v:VVm)(hv:bX v):ab Tryz.prog 52 [eVm v,i64 120] (tVm (doS v 120)):=by
 have hk:aU 120 (ao.getD (120:Int).toNat [])=3:=by kernel_rfl
 have hn:ao.getD (120:Int).toNat []=[80,79,83,84]:=by kernel_rfl
 rw[aE (by decide) (by decide),hk,hn,Pp]
 refine aR v 120 3 327 [.row [i64 1],.row [i64 3]] _ (by decide) (by decide) (by have:=hv.d;omega) hv.data (by decide) (by simp) (by rw[hn];exact fQ 120 _ _ _ _ (by decide) (by simp) rfl rfl rfl rfl rfl rfl) (by unfold ex;split;simp;split<;>simp) (fun hk H i hi=>?_)
 have hx:=hv.x hk
 generalize v.d.drop (v.d.length-3)=x at hx ⊢
 exact⟨⟨_,Tryz.func327,rfl,rfl⟩,Ph v x hv.req hv.hand hx H i hi⟩
theorem Qq(v:VVm)(x:List Int):aY v 121 [65,70,84,69,82] x=bn 2 v x:=by kernel_rfl
theorem Pd(v:VVm)(hv:bX v):ab Tryz.prog 52 [eVm v,i64 121] (tVm (doS v 121)):=by
 have hk:aU 121 (ao.getD (121:Int).toNat [])=4:=by kernel_rfl
 have hn:ao.getD (121:Int).toNat []=[65,70,84,69,82]:=by kernel_rfl
 rw[aE (by decide) (by decide),hk,hn,Qq]
 refine aR v 121 4 327 [.row [i64 2],.row [i64 4]] _ (by decide) (by decide) (by have:=hv.d;omega) hv.data (by decide) (by simp) (by rw[hn];exact fQ 121 _ _ _ _ (by decide) (by simp) rfl rfl rfl rfl rfl rfl) (by unfold bn;split;simp;split;simp;split;simp;split<;>simp) (fun hk H i hi=>?_)
 have hx:=hv.x hk
 generalize v.d.drop (v.d.length-4)=x at hx ⊢
 exact⟨⟨_,Tryz.func327,rfl,rfl⟩,DC 2 (by decide) v x hv.req hv.hand hx H i hi⟩
theorem P4(v:VVm)(x:List Int):aY v 122 [69,86,69,82,89] x=bn 3 v x:=by kernel_rfl
theorem PF(v:VVm)(hv:bX v):ab Tryz.prog 52 [eVm v,i64 122] (tVm (doS v 122)):=by
 have hk:aU 122 (ao.getD (122:Int).toNat [])=4:=by kernel_rfl
 have hn:ao.getD (122:Int).toNat []=[69,86,69,82,89]:=by kernel_rfl
 rw[aE (by decide) (by decide),hk,hn,P4]
 refine aR v 122 4 327 [.row [i64 3],.row [i64 4]] _ (by decide) (by decide) (by have:=hv.d;omega) hv.data (by decide) (by simp) (by rw[hn];exact fQ 122 _ _ _ _ (by decide) (by simp) rfl rfl rfl rfl rfl rfl) (by unfold bn;split;simp;split;simp;split;simp;split<;>simp) (fun hk H i hi=>?_)
 have hx:=hv.x hk
 generalize v.d.drop (v.d.length-4)=x at hx ⊢
 exact⟨⟨_,Tryz.func327,rfl,rfl⟩,DC 3 (by decide) v x hv.req hv.hand hx H i hi⟩
theorem Qa(v:VVm)(x:List Int):aY v 123 [67,65,78,67,69,76] x=em v x:=by kernel_rfl
theorem P1(v:VVm)(hv:bX v):ab Tryz.prog 52 [eVm v,i64 123] (tVm (doS v 123)):=by
 have hk:aU 123 (ao.getD (123:Int).toNat [])=1:=by kernel_rfl
 have hn:ao.getD (123:Int).toNat []=[67,65,78,67,69,76]:=by kernel_rfl
 rw[aE (by decide) (by decide),hk,hn,Qa]
 refine aR v 123 1 327 [.row [i64 4],.row [i64 1]] _ (by decide) (by decide) (by have:=hv.d;omega) hv.data (by decide) (by simp) (by rw[hn];exact fQ 123 _ _ _ _ (by decide) (by simp) rfl rfl rfl rfl rfl rfl) (by unfold em;split<;>simp) (fun hk H i hi=>?_)
 have hx:=hv.x hk
 generalize v.d.drop (v.d.length-1)=x at hx ⊢
 exact⟨⟨_,Tryz.func327,rfl,rfl⟩,K1 v x hv.req hx H i hi⟩
theorem PG(v:VVm)(x:List Int):aY v 124 [65,82,71] x=(v,[v.arg],0):=by kernel_rfl
theorem QO(v:VVm)(hv:bX v):ab Tryz.prog 52 [eVm v,i64 124] (tVm (doS v 124)):=by
 have hk:aU 124 (ao.getD (124:Int).toNat [])=0:=by kernel_rfl
 have hn:ao.getD (124:Int).toNat []=[65,82,71]:=by kernel_rfl
 rw[aE (by decide) (by decide),hk,hn,PG]
 refine aR v 124 0 309 [.row [fnP 262 []]] _ (by decide) (by decide) (by have:=hv.d;omega) hv.data (by decide) (by simp) (by rw[hn];exact fQ 124 _ _ _ _ (by decide) (by simp) rfl rfl rfl rfl rfl rfl) (by(show List.length _≤_;simp[bN,bv,cu,dB,dZ,eo,d7,bO,bp,aW,cw,pUM,pM,cy,cB,cz,pSD,bq,bB])) (fun hk H i hi=>?_)
 have hx:=hv.x hk
 generalize v.d.drop (v.d.length-0)=x at hx ⊢
 exact⟨⟨_,Tryz.func309,rfl,rfl⟩,j8 262 [] v x _ (by simp) (fun H=>⟨⟨_,Tryz.func262,rfl,rfl⟩,Tc v H⟩) H i hi⟩
theorem QG(v:VVm)(x:List Int):aY v 125 [83,69,76,70] x=(v,[v.self],0):=by kernel_rfl
theorem Pm(v:VVm)(hv:bX v):ab Tryz.prog 52 [eVm v,i64 125] (tVm (doS v 125)):=by
 have hk:aU 125 (ao.getD (125:Int).toNat [])=0:=by kernel_rfl
 have hn:ao.getD (125:Int).toNat []=[83,69,76,70]:=by kernel_rfl
 rw[aE (by decide) (by decide),hk,hn,QG]
 refine aR v 125 0 309 [.row [fnP 263 []]] _ (by decide) (by decide) (by have:=hv.d;omega) hv.data (by decide) (by simp) (by rw[hn];exact fQ 125 _ _ _ _ (by decide) (by simp) rfl rfl rfl rfl rfl rfl) (by(show List.length _≤_;simp[bN,bv,cu,dB,dZ,eo,d7,bO,bp,aW,cw,pUM,pM,cy,cB,cz,pSD,bq,bB])) (fun hk H i hi=>?_)
 have hx:=hv.x hk
 generalize v.d.drop (v.d.length-0)=x at hx ⊢
 exact⟨⟨_,Tryz.func309,rfl,rfl⟩,j8 263 [] v x _ (by simp) (fun H=>⟨⟨_,Tryz.func263,rfl,rfl⟩,Td v H⟩) H i hi⟩
theorem Qd(v:VVm)(x:List Int):aY v 126 [78,79,87] x=(v,[v.now],0):=by kernel_rfl
theorem O2(v:VVm)(hv:bX v):ab Tryz.prog 52 [eVm v,i64 126] (tVm (doS v 126)):=by
 have hk:aU 126 (ao.getD (126:Int).toNat [])=0:=by kernel_rfl
 have hn:ao.getD (126:Int).toNat []=[78,79,87]:=by kernel_rfl
 rw[aE (by decide) (by decide),hk,hn,Qd]
 refine aR v 126 0 309 [.row [fnP 264 []]] _ (by decide) (by decide) (by have:=hv.d;omega) hv.data (by decide) (by simp) (by rw[hn];exact fQ 126 _ _ _ _ (by decide) (by simp) rfl rfl rfl rfl rfl rfl) (by(show List.length _≤_;simp[bN,bv,cu,dB,dZ,eo,d7,bO,bp,aW,cw,pUM,pM,cy,cB,cz,pSD,bq,bB])) (fun hk H i hi=>?_)
 have hx:=hv.x hk
 generalize v.d.drop (v.d.length-0)=x at hx ⊢
 exact⟨⟨_,Tryz.func309,rfl,rfl⟩,j8 264 [] v x _ (by simp) (fun H=>⟨⟨_,Tryz.func264,rfl,rfl⟩,Tt v H⟩) H i hi⟩
theorem Qx(v:VVm)(x:List Int):aY v 127 [83,69,84,45,83,84,65,84,69] x=cU v x:=by kernel_rfl
theorem OF(v:VVm)(hv:bX v):ab Tryz.prog 52 [eVm v,i64 127] (tVm (doS v 127)):=by
 have hk:aU 127 (ao.getD (127:Int).toNat [])=2:=by kernel_rfl
 have hn:ao.getD (127:Int).toNat []=[83,69,84,45,83,84,65,84,69]:=by kernel_rfl
 rw[aE (by decide) (by decide),hk,hn,Qx]
 refine aR v 127 2 265 [] _ (by decide) (by decide) (by have:=hv.d;omega) hv.data (by decide) (by simp) (by rw[hn];exact fQ 127 _ _ _ _ (by decide) (by simp) rfl rfl rfl rfl rfl rfl) (by unfold cU cu;split<;>simp) (fun hk H i hi=>?_)
 have hx:=hv.x hk
 generalize v.d.drop (v.d.length-2)=x at hx ⊢
 exact⟨⟨_,Tryz.func265,rfl,rfl⟩,S9 v x hv.mem hx H i hi⟩
theorem Qp(v:VVm)(x:List Int):aY v 128 [65,84,45,83,84,65,84,69] x=dG v x:=by kernel_rfl
theorem Qg(v:VVm)(hv:bX v):ab Tryz.prog 52 [eVm v,i64 128] (tVm (doS v 128)):=by
 have hk:aU 128 (ao.getD (128:Int).toNat [])=3:=by kernel_rfl
 have hn:ao.getD (128:Int).toNat []=[65,84,45,83,84,65,84,69]:=by kernel_rfl
 rw[aE (by decide) (by decide),hk,hn,Qp]
 refine aR v 128 3 267 [] _ (by decide) (by decide) (by have:=hv.d;omega) hv.data (by decide) (by simp) (by rw[hn];exact fQ 128 _ _ _ _ (by decide) (by simp) rfl rfl rfl rfl rfl rfl) (by unfold dG cu;split<;>simp) (fun hk H i hi=>?_)
 have hx:=hv.x hk
 generalize v.d.drop (v.d.length-3)=x at hx ⊢
 exact⟨⟨_,Tryz.func267,rfl,rfl⟩,Tb v x hv.mem hx H i hi⟩
theorem Pj(v:VVm)(x:List Int):aY v 129 [71,69,84,45,83,84,65,84,69] x=bN v x:=by kernel_rfl
theorem Ov(v:VVm)(hv:bX v):ab Tryz.prog 52 [eVm v,i64 129] (tVm (doS v 129)):=by
 have hk:aU 129 (ao.getD (129:Int).toNat [])=1:=by kernel_rfl
 have hn:ao.getD (129:Int).toNat []=[71,69,84,45,83,84,65,84,69]:=by kernel_rfl
 rw[aE (by decide) (by decide),hk,hn,Pj]
 refine aR v 129 1 305 [.row [fnP 45 []]] _ (by decide) (by decide) (by have:=hv.d;omega) hv.data (by decide) (by simp) (by rw[hn];exact fQ 129 _ _ _ _ (by decide) (by simp) rfl rfl rfl rfl rfl rfl) (by(show List.length _≤_;simp[bN,bv,cu,dB,dZ,eo,d7,bO,bp,aW,cw,pUM,pM,cy,cB,cz,pSD,bq,bB])) (fun hk H i hi=>?_)
 have hx:=hv.x hk
 generalize v.d.drop (v.d.length-1)=x at hx ⊢
 exact⟨⟨_,Tryz.func305,rfl,rfl⟩,rN 45 [] v x _ hx.len (by simp) (fun H=>⟨⟨_,Tryz.func45,rfl,rfl⟩,(gT v.mem _ (eK hv.mem) (hx.fit 0)) H⟩) H i hi⟩
theorem I5{n:Int}(h0:23≤n)(h1:n≤38):ao.getD n.toNat []∈lE:=by
 have:n=23∨n=24∨n=25∨n=26∨n=27∨n=28∨n=29∨n=30∨n=31∨n=32∨n=33∨n=34∨n=35∨n=36∨n=37∨n=38:=by omega
 rcases this with rfl|rfl|rfl|rfl|rfl|rfl|rfl|rfl|rfl|rfl|rfl|rfl|rfl|rfl|rfl|rfl<;>decide
theorem L8(v:VVm)(hv:bX v)(n:Int):ab Tryz.prog 52 [eVm v,i64 n] (tVm (doS v n)):=by
 by_cases h:23≤n∧n≤129
 ·by_cases h1:n≤38
  ·have hs:ao.getD n.toNat []∈lE:=I5 h.1 h1
   have e:doS v n=({v with d:=(bR (ao.getD n.toNat []) v.d v.conf.data).1},(bR (ao.getD n.toNat []) v.d v.conf.data).2.2):=by
    unfold doS;rw[if_neg (by omega)];simp only;rw[if_pos h1]
   rw[e]
   exact C5 v n h.1 h1 hs (by have:=hv.d;omega) hv.data
  by_cases h2:n≤58
  ·exact Pw v hv n (by omega) h2
  by_cases h3:n≤72
  ·exact Oj v hv n (by omega) h3
  have:n=73∨n=74∨n=75∨n=76∨n=77∨n=78∨n=79∨n=80∨n=81∨n=82∨n=83∨n=84∨n=85∨n=86∨n=87∨n=88∨n=89∨n=90∨n=91∨n=92∨n=93∨n=94∨n=95∨n=96∨n=97∨n=98∨n=99∨n=100∨n=101∨n=102∨n=103∨n=104∨n=105∨n=106∨n=107∨n=108∨n=109∨n=110∨n=111∨n=112∨n=113∨n=114∨n=115∨n=116∨n=117∨n=118∨n=119∨n=120∨n=121∨n=122∨n=123∨n=124∨n=125∨n=126∨n=127∨n=128∨n=129:=by omega
  rcases this with rfl|rfl|rfl|rfl|rfl|rfl|rfl|rfl|rfl|rfl|rfl|rfl|rfl|rfl|rfl|rfl|rfl|rfl|rfl|rfl|rfl|rfl|rfl|rfl|rfl|rfl|rfl|rfl|rfl|rfl|rfl|rfl|rfl|rfl|rfl|rfl|rfl|rfl|rfl|rfl|rfl|rfl|rfl|rfl|rfl|rfl|rfl|rfl|rfl|rfl|rfl|rfl|rfl|rfl|rfl|rfl|rfl
  ·exact Rw v hv
  ·exact RG v hv
  ·exact RI v hv
  ·exact SQ v hv
  ·exact SL v hv
  ·exact R0 v hv
  ·exact SB v hv
  ·exact Sc v hv
  ·exact ST v hv
  ·exact Ru v hv
  ·exact RD v hv
  ·exact Si v hv
  ·exact SR v hv
  ·exact SW v hv
  ·exact SH v hv
  ·exact SY v hv
  ·exact SN v hv
  ·exact Rz v hv
  ·exact Se v hv
  ·exact RZ v hv
  ·exact RP v hv
  ·exact Sx v hv
  ·exact Sw v hv
  ·exact Rx v hv
  ·exact SX v hv
  ·exact RJ v hv
  ·exact SO v hv
  ·exact Ps v hv
  ·exact PX v hv
  ·exact Qn v hv
  ·exact Oy v hv
  ·exact OL v hv
  ·exact OU v hv
  ·exact Qu v hv
  ·exact QH v hv
  ·exact Om v hv
  ·exact OP v hv
  ·exact Qe v hv
  ·exact PR v hv
  ·exact QA v hv
  ·exact Pa v hv
  ·exact Pv v hv
  ·exact Ou v hv
  ·exact QI v hv
  ·exact Pg v hv
  ·exact Ox v hv
  ·exact OW v hv
  ·exact O3 v hv
  ·exact Pd v hv
  ·exact PF v hv
  ·exact P1 v hv
  ·exact QO v hv
  ·exact Pm v hv
  ·exact O2 v hv
  ·exact OF v hv
  ·exact Qg v hv
  exact Ov v hv
 have e:doS v n=(v,-24):=by unfold doS;rw[if_pos (by omega)]
 rw[e];exact P2 v n h
def vX(x:fZ):List Value:=[.int .i64 x.kind,.int .i64 x.arg,.int .i64 x.hand,.int .i64 x.rank,.int .i64 x.delay,.int .i64 x.id]
theorem Hp{x y:fZ}(h:jJ (vX x) (vX y)=true):x=y:=by cases x;cases y;simp[vX,jJ,eqV]at h;simp[h]
theorem Af(x:fZ):jJ (vX x) (vX x)=true:=by simp[vX,jJ,eqV]
def rC(x:lK):List Value:=[.int .i64 x.xt,.int .i64 x.fuel,.int .i64 x.strikes,.bool x.out]
theorem DB{x y:lK}(h:jJ (rC x) (rC y)=true):x=y:=by cases x;cases y;simp[rC,jJ,eqV]at h;simp[h]
theorem wO(x:lK):jJ (rC x) (rC x)=true:=by simp[rC,jJ,eqV]
def rj(x:jh):List Value:=[.int .i64 x.mem,.int .i64 x.data,.int .i64 x.ret,.int .i64 x.words,.int .i64 x.out]
theorem Dw{x y:jh}(h:jJ (rj x) (rj y)=true):x=y:=by cases x;cases y;simp[rj,jJ,eqV]at h;simp[h]
theorem xd(x:jh):jJ (rj x) (rj x)=true:=by simp[rj,jJ,eqV]
theorem ig{b:Bool}(h:(!b)=false):b=true:=by cases b<;>simp_all
theorem g7{b:Bool}(h:(!b)=true):b=false:=by cases b<;>simp_all
theorem I1(a b:List fZ)(ha:a.length≤1000000)(hb:b.length≤1000000):ab Tryz.prog 39 [sq ez a,sq ez b] (boo (decide (a=b))):=by
 refine pW tG (rs:=[.tmp 4]) Tryz.func39 rfl rfl rfl (by simp) (by simp) (fun B=>?_)
 refine zu1 ?_
 refine Ws ?_
 refine zu5 ?_
 refine Wi rfl (fun hi1=>?_) (fun hi1=>?_)
 ·have hne:a≠b:=fun h=>by subst h;simp at hi1
  refine zu1 ?_
  refine zR ?_
  exact congrArg boo (decide_eq_false hne).symm
 have hl:a.length=b.length:=by(try simp only[dnL]at *);omega
 refine Wj ?_
 refine Ws ?_
 refine zu1 ?_
 refine Wl ?_
 show W _ _ _ _ _ _ _
 refine bG (fun(k:Nat)=>[(0,sq ez a),(1,sq ez b),(5,i64 k)]) (fun(k:Nat)=>[]) (fun(k:Nat)=>[]) (fun(k:Nat)=>k≤a.length∧a.take k=b.take k) (fun(k:Nat)=>a.length-k) (0) (by simp) [] ?_ ?_
 ·exact bu
 intro k hk
 refine Ws ?_
 refine zu4 ?_
 refine Wi rfl (fun hi2=>?_) (fun hi2=>?_)
 ·have hlt:k<a.length:=by have:=oT hi2;omega
  refine Wj ?_
  refine Ws ?_
  refine Wl ?_
  refine Ws ?_
  refine ai [0,0,0,1,0,0,0,1,0] [0,1,2,3,4,5,6,7,8] mG rfl (by kernel_rfl) ?_
  iterate 2 refine z3 ?_
  refine Xi tG rfl rfl rfl rfl (fun _=>rfl) (by omega) (iN ez 6 (fun _=>rfl) default (by omega)) ?_
  refine z5 ?_
  iterate 2 refine z3 ?_
  refine Xi tG rfl rfl rfl rfl (fun _=>rfl) (by omega) (iN ez 6 (fun _=>rfl) default (by omega)) ?_
  refine z5 ?_
  refine cI rfl rfl rfl rfl (fun _=>dM rfl rfl rfl rfl rfl (by kernel_rfl)) ?_
  refine ah ?_
  refine Wi rfl (fun hi3=>?_) (fun hi3=>?_)
  ·have hne:a≠b:=fun h=>by have h1:=g7 hi3;rw[h]at h1;exact absurd ((Af _).symm.trans h1) (by simp)
   refine zu1 ?_
   refine zR ?_
   exact congrArg boo (decide_eq_false hne).symm
  have he:a.getD k default=b.getD k default:=Hp (ig hi3)
  refine Wj ?_
  refine aa rfl ?_
  refine zs3 ?_
  exact⟨k+1,[],(by exact⟨by omega,eL default hl hlt hk.2 he⟩),(by omega),bu⟩
 have hge:a.length≤k:=by have:=oF hi2;omega
 refine aN ?_
 refine zu1 ?_
 refine zR ?_
 exact congrArg boo (decide_eq_true (by have h1:=hk.2;rw[bk a k hge,bk b k (by omega)]at h1;exact h1)).symm
theorem Gd(a b:List lK)(ha:a.length≤1000000)(hb:b.length≤1000000):ab Tryz.prog 40 [sq iG a,sq iG b] (boo (decide (a=b))):=by
 refine pW tG (rs:=[.tmp 4]) Tryz.func40 rfl rfl rfl (by simp) (by simp) (fun B=>?_)
 refine zu1 ?_
 refine Ws ?_
 refine zu5 ?_
 refine Wi rfl (fun hi1=>?_) (fun hi1=>?_)
 ·have hne:a≠b:=fun h=>by subst h;simp at hi1
  refine zu1 ?_
  refine zR ?_
  exact congrArg boo (decide_eq_false hne).symm
 have hl:a.length=b.length:=by(try simp only[dnL]at *);omega
 refine Wj ?_
 refine Ws ?_
 refine zu1 ?_
 refine Wl ?_
 show W _ _ _ _ _ _ _
 refine bG (fun(k:Nat)=>[(0,sq iG a),(1,sq iG b),(5,i64 k)]) (fun(k:Nat)=>[]) (fun(k:Nat)=>[]) (fun(k:Nat)=>k≤a.length∧a.take k=b.take k) (fun(k:Nat)=>a.length-k) (0) (by simp) [] ?_ ?_
 ·exact bu
 intro k hk
 refine Ws ?_
 refine zu4 ?_
 refine Wi rfl (fun hi2=>?_) (fun hi2=>?_)
 ·have hlt:k<a.length:=by have:=oT hi2;omega
  refine Wj ?_
  refine Ws ?_
  refine Wl ?_
  refine Ws ?_
  refine ai [0,0,0,1,0,0,0,1,0] [0,1,2,3,4,5,6,7,8] mG rfl (by kernel_rfl) ?_
  iterate 2 refine z3 ?_
  refine Xi tG rfl rfl rfl rfl (fun _=>rfl) (by omega) (iN iG 4 (fun _=>rfl) default (by omega)) ?_
  refine z5 ?_
  iterate 2 refine z3 ?_
  refine Xi tG rfl rfl rfl rfl (fun _=>rfl) (by omega) (iN iG 4 (fun _=>rfl) default (by omega)) ?_
  refine z5 ?_
  refine cI rfl rfl rfl rfl (fun _=>dM rfl rfl rfl rfl rfl (by kernel_rfl)) ?_
  refine ah ?_
  refine Wi rfl (fun hi3=>?_) (fun hi3=>?_)
  ·have hne:a≠b:=fun h=>by have h1:=g7 hi3;rw[h]at h1;exact absurd ((wO _).symm.trans h1) (by simp)
   refine zu1 ?_
   refine zR ?_
   exact congrArg boo (decide_eq_false hne).symm
  have he:a.getD k default=b.getD k default:=DB (ig hi3)
  refine Wj ?_
  refine aa rfl ?_
  refine zs3 ?_
  exact⟨k+1,[],(by exact⟨by omega,eL default hl hlt hk.2 he⟩),(by omega),bu⟩
 have hge:a.length≤k:=by have:=oF hi2;omega
 refine aN ?_
 refine zu1 ?_
 refine zR ?_
 exact congrArg boo (decide_eq_true (by have h1:=hk.2;rw[bk a k hge,bk b k (by omega)]at h1;exact h1)).symm
theorem HP{x y:gX}(h1:x.name=y.name)(h2:x.xt=y.xt)(h3:x.flags=y.flags):x=y:=by cases x;cases y;simp_all
theorem FE(a b:List gX)(ha:a.length≤1000000)(hb:b.length≤1000000):ab Tryz.prog 37 [sq c8 a,sq c8 b] (boo (decide (a=b))):=by
 refine pW tG (rs:=[.tmp 4]) Tryz.func37 rfl rfl rfl (by simp) (by simp) (fun B=>?_)
 refine zu1 ?_
 refine Ws ?_
 refine zu5 ?_
 refine Wi rfl (fun hi1=>?_) (fun hi1=>?_)
 ·have hne:a≠b:=fun h=>by subst h;simp at hi1
  refine zu1 ?_
  refine zR ?_
  exact congrArg boo (decide_eq_false hne).symm
 have hl:a.length=b.length:=by(try simp only[dnL]at *);omega
 refine Wj ?_
 refine Ws ?_
 refine zu1 ?_
 refine Wl ?_
 show W _ _ _ _ _ _ _
 refine bG (fun(k:Nat)=>[(0,sq c8 a),(1,sq c8 b),(5,i64 k)]) (fun(k:Nat)=>[]) (fun(k:Nat)=>[]) (fun(k:Nat)=>k≤a.length∧a.take k=b.take k) (fun(k:Nat)=>a.length-k) (0) (by simp) [] ?_ ?_
 ·exact bu
 intro k hk
 refine Ws ?_
 refine zu4 ?_
 refine Wi rfl (fun hi2=>?_) (fun hi2=>?_)
 ·have hlt:k<a.length:=by have:=oT hi2;omega
  refine Wj ?_
  refine Ws ?_
  refine Wl ?_
  refine Ws ?_
  refine ai [0,0,0,0,1,0,0,0,0,1,0,0,0,0,0,0,1,0,0,0,0,1,0,0,0,0,0,0,0,1,0,0,0,0,1,0,0] [0,1,2,3,4,5,6,7,8,9,10,11,12,13,14,15,16,17,18,19,20,21,22,23,24,25,26,27,28,29,30,31,32,33,34,35,36] mG rfl (by kernel_rfl) ?_
  iterate 2 refine z3 ?_
  refine Xi tG rfl rfl rfl rfl (fun _=>rfl) (by omega) (iN c8 3 (fun _=>rfl) default (by omega)) ?_
  refine z3 ?_
  refine z5 ?_
  iterate 2 refine z3 ?_
  refine Xi tG rfl rfl rfl rfl (fun _=>rfl) (by omega) (iN c8 3 (fun _=>rfl) default (by omega)) ?_
  refine z3 ?_
  refine z5 ?_
  refine z3 ?_
  refine Xa 27 rfl (eU _ _) ?_
  refine z3 ?_
  refine bZ 28 rfl (fun hg1=>?_) (fun hg1=>?_)
  ·have hne:a≠b:=fun h=>by have h1:=oF (g7 hg1);rw[h]at h1;exact h1 rfl
   iterate 11 refine z7 ?_
   iterate 2 refine z3 ?_
   iterate 11 refine z7 ?_
   refine z3 ?_
   refine ah ?_
   refine Wt rfl rfl ?_
   refine zu1 ?_
   refine zR ?_
   exact congrArg boo (decide_eq_false hne).symm
  have h1:(a.getD k default).name=(b.getD k default).name:=oT (ig hg1)
  iterate 2 refine z3 ?_
  refine Xi tG rfl rfl rfl rfl (fun _=>rfl) (by omega) (iN c8 3 (fun _=>rfl) default (by omega)) ?_
  refine z3 ?_
  refine z5 ?_
  iterate 2 refine z3 ?_
  refine Xi tG rfl rfl rfl rfl (fun _=>rfl) (by omega) (iN c8 3 (fun _=>rfl) default (by omega)) ?_
  refine z3 ?_
  refine z5 ?_
  iterate 3 refine z3 ?_
  refine bZ 41 rfl (fun hg2=>?_) (fun hg2=>?_)
  ·have hne:a≠b:=fun h=>by have h1:=bne_iff_ne.1 hg2;rw[h]at h1;exact h1 rfl
   iterate 11 refine z7 ?_
   refine z3 ?_
   refine ah ?_
   refine Wt rfl rfl ?_
   refine zu1 ?_
   refine zR ?_
   exact congrArg boo (decide_eq_false hne).symm
  have h2:(a.getD k default).xt=(b.getD k default).xt:=bne_eq_false_iff_eq.1 hg2
  iterate 2 refine z3 ?_
  refine Xi tG rfl rfl rfl rfl (fun _=>rfl) (by omega) (iN c8 3 (fun _=>rfl) default (by omega)) ?_
  refine z3 ?_
  refine z5 ?_
  iterate 2 refine z3 ?_
  refine Xi tG rfl rfl rfl rfl (fun _=>rfl) (by omega) (iN c8 3 (fun _=>rfl) default (by omega)) ?_
  refine z3 ?_
  refine z5 ?_
  iterate 2 refine z3 ?_
  refine ah ?_
  refine Wi rfl (fun hi3=>?_) (fun hi3=>?_)
  ·have hne:a≠b:=fun h=>by have h1:=bne_iff_ne.1 hi3;rw[h]at h1;exact h1 rfl
   refine zu1 ?_
   refine zR ?_
   exact congrArg boo (decide_eq_false hne).symm
  have he:a.getD k default=b.getD k default:=HP h1 h2 (bne_eq_false_iff_eq.1 hi3)
  refine Wj ?_
  refine aa rfl ?_
  refine zs3 ?_
  exact⟨k+1,[],(by exact⟨by omega,eL default hl hlt hk.2 he⟩),(by omega),bu⟩
 have hge:a.length≤k:=by have:=oF hi2;omega
 refine aN ?_
 refine zu1 ?_
 refine zR ?_
 exact congrArg boo (decide_eq_true (by have h1:=hk.2;rw[bk a k hge,bk b k (by omega)]at h1;exact h1)).symm
structure VSm (v:VVm):Prop where
 old:v.mem.old.length≤1000000
 d:v.d.length≤1000000
 r:v.r.length≤1000000
 f:v.f.length≤1000000
 dict:v.dict.length≤1000000
 req:v.req.length≤1000000
 hand:v.hand.length≤1000000
theorem JD{a b:VVm}(h1:a.conf=b.conf)(h2:a.mem=b.mem)(h3:a.here=b.here)(h4:a.d=b.d)(h5:a.r=b.r)(h6:a.f=b.f)(h7:a.dict=b.dict)(h8:a.last=b.last)(h9:a.out=b.out)(h10:a.pic=b.pic)(h11:a.req=b.req)(h12:a.free=b.free)(h13:a.next=b.next)(h14:a.arg=b.arg)(h15:a.self=b.self)(h16:a.now=b.now)(h17:a.hand=b.hand):a=b:=by
 cases a;cases b;simp only[VVm.mk.injEq];exact⟨h1,h2,h3,h4,h5,h6,h7,h8,h9,h10,h11,h12,h13,h14,h15,h16,h17⟩
theorem uf(a b:VVm)(ha:VSm a)(hb:VSm b):ab Tryz.prog 17 [eVm a,eVm b] (boo (decide (a=b))):=by
 refine pW tG (rs:=[.tmp 4]) Tryz.func17 rfl rfl rfl (by simp) (by simp) (fun B=>?_)
 refine zu3 ?_
 refine zp4 ?_
 refine zc rfl Tryz.func35 ((EI a.mem b.mem ha.old hb.old) _) ?_
 refine zs1 ?_
 refine zp4 ?_
 refine zc rfl Tryz.func21 ((oD a.d b.d ha.d hb.d) _) ?_
 refine zs1 ?_
 refine zp4 ?_
 refine zc rfl Tryz.func21 ((oD a.r b.r ha.r hb.r) _) ?_
 refine zs1 ?_
 refine zp4 ?_
 refine zc rfl Tryz.func36 ((Ch a.f b.f ha.f hb.f) _) ?_
 refine zs1 ?_
 refine zp4 ?_
 refine zc rfl Tryz.func37 ((FE a.dict b.dict ha.dict hb.dict) _) ?_
 refine zs1 ?_
 refine zp4 ?_
 refine zc rfl Tryz.func38 ((GM a.pic b.pic) _) ?_
 refine zs1 ?_
 refine zp4 ?_
 refine zc rfl Tryz.func39 ((I1 a.req b.req ha.req hb.req) _) ?_
 refine zs1 ?_
 refine zp4 ?_
 refine zc rfl Tryz.func40 ((Gd a.hand b.hand ha.hand hb.hand) _) ?_
 refine zs1 ?_
 refine Ws ?_
 refine zp3 ?_
 refine Wb 55 rfl (fun hg1=>?_) (fun hg1=>?_)
 ·have hne:a≠b:=fun h=>oF (g7 hg1) (by rw[h])
  iterate 2 refine z6 ?_
  refine zy2 ?_
  iterate 2 refine z6 ?_
  refine zy2 ?_
  iterate 2 refine z6 ?_
  refine zy2 ?_
  iterate 2 refine z6 ?_
  refine zy2 ?_
  iterate 2 refine z6 ?_
  refine zy2 ?_
  iterate 2 refine z6 ?_
  refine zy2 ?_
  iterate 2 refine z6 ?_
  refine zy2 ?_
  iterate 5 refine z6 ?_
  refine zy2 ?_
  iterate 7 refine z6 ?_
  refine zs1 ?_
  refine Wt rfl rfl ?_
  refine zu1 ?_
  refine zR ?_
  exact congrArg boo (decide_eq_false hne).symm
 have h1:=oT (ig hg1)
 refine zy4 ?_
 refine Wb 59 rfl (fun hg2=>?_) (fun hg2=>?_)
 ·have hne:a≠b:=fun h=>oF (g7 hg2) (by rw[h])
  iterate 2 refine z6 ?_
  refine zy2 ?_
  iterate 2 refine z6 ?_
  refine zy2 ?_
  iterate 2 refine z6 ?_
  refine zy2 ?_
  iterate 2 refine z6 ?_
  refine zy2 ?_
  iterate 2 refine z6 ?_
  refine zy2 ?_
  iterate 2 refine z6 ?_
  refine zy2 ?_
  iterate 5 refine z6 ?_
  refine zy2 ?_
  iterate 7 refine z6 ?_
  refine zs1 ?_
  refine Wt rfl rfl ?_
  refine zu1 ?_
  refine zR ?_
  exact congrArg boo (decide_eq_false hne).symm
 have h2:=oT (ig hg2)
 refine zy4 ?_
 refine Wb 63 rfl (fun hg3=>?_) (fun hg3=>?_)
 ·have hne:a≠b:=fun h=>oF (g7 hg3) (by rw[h])
  iterate 2 refine z6 ?_
  refine zy2 ?_
  iterate 2 refine z6 ?_
  refine zy2 ?_
  iterate 2 refine z6 ?_
  refine zy2 ?_
  iterate 2 refine z6 ?_
  refine zy2 ?_
  iterate 2 refine z6 ?_
  refine zy2 ?_
  iterate 5 refine z6 ?_
  refine zy2 ?_
  iterate 7 refine z6 ?_
  refine zs1 ?_
  refine Wt rfl rfl ?_
  refine zu1 ?_
  refine zR ?_
  exact congrArg boo (decide_eq_false hne).symm
 have h3:=oT (ig hg3)
 refine zy4 ?_
 refine Wb 67 rfl (fun hg4=>?_) (fun hg4=>?_)
 ·have hne:a≠b:=fun h=>oF (g7 hg4) (by rw[h])
  iterate 2 refine z6 ?_
  refine zy2 ?_
  iterate 2 refine z6 ?_
  refine zy2 ?_
  iterate 2 refine z6 ?_
  refine zy2 ?_
  iterate 2 refine z6 ?_
  refine zy2 ?_
  iterate 5 refine z6 ?_
  refine zy2 ?_
  iterate 7 refine z6 ?_
  refine zs1 ?_
  refine Wt rfl rfl ?_
  refine zu1 ?_
  refine zR ?_
  exact congrArg boo (decide_eq_false hne).symm
 have h4:=oT (ig hg4)
 refine zy4 ?_
 refine Wb 71 rfl (fun hg5=>?_) (fun hg5=>?_)
 ·have hne:a≠b:=fun h=>oF (g7 hg5) (by rw[h])
  iterate 2 refine z6 ?_
  refine zy2 ?_
  iterate 2 refine z6 ?_
  refine zy2 ?_
  iterate 2 refine z6 ?_
  refine zy2 ?_
  iterate 5 refine z6 ?_
  refine zy2 ?_
  iterate 7 refine z6 ?_
  refine zs1 ?_
  refine Wt rfl rfl ?_
  refine zu1 ?_
  refine zR ?_
  exact congrArg boo (decide_eq_false hne).symm
 have h5:=oT (ig hg5)
 refine zy4 ?_
 refine Wb 75 rfl (fun hg6=>?_) (fun hg6=>?_)
 ·have hne:a≠b:=fun h=>oF (g7 hg6) (by rw[h])
  iterate 2 refine z6 ?_
  refine zy2 ?_
  iterate 2 refine z6 ?_
  refine zy2 ?_
  iterate 5 refine z6 ?_
  refine zy2 ?_
  iterate 7 refine z6 ?_
  refine zs1 ?_
  refine Wt rfl rfl ?_
  refine zu1 ?_
  refine zR ?_
  exact congrArg boo (decide_eq_false hne).symm
 have h6:=oT (ig hg6)
 refine zy4 ?_
 refine Wb 79 rfl (fun hg7=>?_) (fun hg7=>?_)
 ·have hne:a≠b:=fun h=>oF (g7 hg7) (by rw[h])
  iterate 2 refine z6 ?_
  refine zy2 ?_
  iterate 5 refine z6 ?_
  refine zy2 ?_
  iterate 7 refine z6 ?_
  refine zs1 ?_
  refine Wt rfl rfl ?_
  refine zu1 ?_
  refine zR ?_
  exact congrArg boo (decide_eq_false hne).symm
 have h7:=oT (ig hg7)
 refine zy4 ?_
 refine Wb 83 rfl (fun hg8=>?_) (fun hg8=>?_)
 ·have hne:a≠b:=fun h=>oF (g7 hg8) (by rw[h])
  iterate 5 refine z6 ?_
  refine zy2 ?_
  iterate 7 refine z6 ?_
  refine zs1 ?_
  refine Wt rfl rfl ?_
  refine zu1 ?_
  refine zR ?_
  exact congrArg boo (decide_eq_false hne).symm
 have h8:=oT (ig hg8)
 refine zy4 ?_
 refine Wd rfl rfl (dM rfl rfl rfl rfl rfl (by kernel_rfl)) ?_
 refine zy2 ?_
 refine Wb 90 rfl (fun hg9=>?_) (fun hg9=>?_)
 ·have hne:a≠b:=fun h=>by have h1:=g7 hg9;rw[h]at h1;exact absurd ((xd _).symm.trans h1) (by simp)
  iterate 7 refine z6 ?_
  refine zs1 ?_
  refine Wt rfl rfl ?_
  refine zu1 ?_
  refine zR ?_
  exact congrArg boo (decide_eq_false hne).symm
 have h9:a.conf=b.conf:=Dw (ig hg9)
 refine zy2 ?_
 refine Wd rfl rfl (bI (lO tG rfl) rfl (lO tG rfl) rfl (lO tG rfl) rfl rfl rfl) ?_
 refine zy2 ?_
 refine Wd rfl rfl (bI (lO tG rfl) rfl (lO tG rfl) rfl (lO tG rfl) rfl rfl rfl) ?_
 refine z1 ?_
 refine Wa 97 rfl (eU _ _) ?_
 refine zs1 ?_
 refine Wi rfl (fun hi1=>?_) (fun hi1=>?_)
 ·have hne:a≠b:=fun h=>oF (g7 hi1) (by rw[h])
  refine zu1 ?_
  refine zR ?_
  exact congrArg boo (decide_eq_false hne).symm
 have h10:=oT (ig hi1)
 refine Wj ?_
 refine zp5 ?_
 refine z1 ?_
 refine Wb 104 rfl (fun hg10=>?_) (fun hg10=>?_)
 ·have q1:a.here=b.here:=beq_iff_eq.1 hg10
  refine zy5 ?_
  refine zy2 ?_
  refine Wb 111 rfl (fun hg11=>?_) (fun hg11=>?_)
  ·have q2:a.last=b.last:=beq_iff_eq.1 hg11
   refine zy5 ?_
   refine zy2 ?_
   refine Wb 118 rfl (fun hg12=>?_) (fun hg12=>?_)
   ·have q3:a.free=b.free:=beq_iff_eq.1 hg12
    refine zy5 ?_
    refine zy2 ?_
    refine Wb 125 rfl (fun hg13=>?_) (fun hg13=>?_)
    ·have q4:a.next=b.next:=beq_iff_eq.1 hg13
     refine zy5 ?_
     refine zy2 ?_
     refine Wb 132 rfl (fun hg14=>?_) (fun hg14=>?_)
     ·have q5:a.arg=b.arg:=beq_iff_eq.1 hg14
      refine zy5 ?_
      refine zy2 ?_
      refine Wb 139 rfl (fun hg15=>?_) (fun hg15=>?_)
      ·have q6:a.self=b.self:=beq_iff_eq.1 hg15
       refine zy5 ?_
       refine zs2 ?_
       refine zR ?_
       (refine congrArg boo ?_;rw[Bool.eq_iff_iff,beq_iff_eq,decide_eq_true_eq];exact⟨fun q7=>JD h9 h1 q1 h2 h3 h4 h5 q2 h10 h6 h7 q3 q4 q5 q6 q7 h8,fun h=>by rw[h]⟩)
      have hne:a≠b:=fun h=>beq_eq_false_iff_ne.1 hg15 (by rw[h])
      iterate 5 refine z6 ?_
      refine zs2 ?_
      refine zR ?_
      exact congrArg boo (decide_eq_false hne).symm
     have hne:a≠b:=fun h=>beq_eq_false_iff_ne.1 hg14 (by rw[h])
     iterate 5 refine z6 ?_
     refine zy2 ?_
     iterate 5 refine z6 ?_
     refine zs2 ?_
     refine zR ?_
     exact congrArg boo (decide_eq_false hne).symm
    have hne:a≠b:=fun h=>beq_eq_false_iff_ne.1 hg13 (by rw[h])
    iterate 5 refine z6 ?_
    refine zy2 ?_
    iterate 5 refine z6 ?_
    refine zy2 ?_
    iterate 5 refine z6 ?_
    refine zs2 ?_
    refine zR ?_
    exact congrArg boo (decide_eq_false hne).symm
   have hne:a≠b:=fun h=>beq_eq_false_iff_ne.1 hg12 (by rw[h])
   iterate 5 refine z6 ?_
   refine zy2 ?_
   iterate 5 refine z6 ?_
   refine zy2 ?_
   iterate 5 refine z6 ?_
   refine zy2 ?_
   iterate 5 refine z6 ?_
   refine zs2 ?_
   refine zR ?_
   exact congrArg boo (decide_eq_false hne).symm
  have hne:a≠b:=fun h=>beq_eq_false_iff_ne.1 hg11 (by rw[h])
  iterate 5 refine z6 ?_
  refine zy2 ?_
  iterate 5 refine z6 ?_
  refine zy2 ?_
  iterate 5 refine z6 ?_
  refine zy2 ?_
  iterate 5 refine z6 ?_
  refine zy2 ?_
  iterate 5 refine z6 ?_
  refine zs2 ?_
  refine zR ?_
  exact congrArg boo (decide_eq_false hne).symm
 have hne:a≠b:=fun h=>beq_eq_false_iff_ne.1 hg10 (by rw[h])
 iterate 5 refine z6 ?_
 refine zy2 ?_
 iterate 5 refine z6 ?_
 refine zy2 ?_
 iterate 5 refine z6 ?_
 refine zy2 ?_
 iterate 5 refine z6 ?_
 refine zy2 ?_
 iterate 5 refine z6 ?_
 refine zy2 ?_
 iterate 5 refine z6 ?_
 refine zs2 ?_
 refine zR ?_
 exact congrArg boo (decide_eq_false hne).symm
def zY(m:aV)(most:Int):Bool:=decide ((m.b.length:Int)≤most∧m.old.length≤60)&&m.old.all (fun p=>decide (p.old.length≤200))
theorem KJ(m:aV)(most:Int)(hb:m.b.length≤9223372036854775807)(ho:m.old.length≤9223372036854775807):ab Tryz.prog 22 [dr m,i64 most] (boo (zY m most)):=by
 refine pW tG (rs:=[.tmp 4]) Tryz.func22 rfl rfl rfl (by simp) (by simp) (fun B=>?_)
 refine zu2 ?_
 refine Ws ?_
 refine zp5 ?_
 refine z1 ?_
 refine Wb 11 rfl (fun hg1=>?_) (fun hg1=>?_)
 ·have hno:¬((m.b.length:Int)≤most∧m.old.length≤60):=fun h=>by have:=oT hg1;omega
  iterate 4 refine z6 ?_
  refine zs1 ?_
  refine Wt rfl rfl ?_
  refine zu1 ?_
  refine zR ?_
  exact congrArg boo (by rw[zY,decide_eq_false hno];rfl)
 have h0:¬(m.b.length:Int)>most:=oF hg1
 refine zs5 ?_
 refine Wi rfl (fun hi1=>?_) (fun hi1=>?_)
 ·have hno:¬((m.b.length:Int)≤most∧m.old.length≤60):=fun h=>by have:=oT hi1;omega
  refine zu1 ?_
  refine zR ?_
  exact congrArg boo (by rw[zY,decide_eq_false hno];rfl)
 have h1:¬(m.old.length:Int)>60:=oF hi1
 have hyes:(m.b.length:Int)≤most∧m.old.length≤60:=⟨by omega,by omega⟩
 refine Wj ?_
 refine Ws ?_
 refine zu1 ?_
 refine Wl ?_
 show W _ _ _ _ _ _ _
 refine bG (fun(k:Nat)=>[(2,.ptr 0 0),(5,i64 k)]) (fun(k:Nat)=>[.cells (np m) 27]) (fun(k:Nat)=>[]) (fun(k:Nat)=>k≤m.old.length∧(m.old.take k).all (fun p=>decide (p.old.length≤200))=true) (fun(k:Nat)=>m.old.length-k) (0) (by simp) [] ?_ ?_
 ·exact bu
 intro k hk
 refine Ws ?_
 refine zu5 ?_
 refine Wi rfl (fun hi2=>?_) (fun hi2=>?_)
 ·have hlt:k<m.old.length:=by have:=oT hi2;omega
  refine Wj ?_
  refine Ws ?_
  refine Wl ?_
  refine zp3 ?_
  refine Wv tG rfl rfl rfl (by omega) (iN cL 2 (fun _=>rfl) default (by omega)) ?_
  refine zs4 ?_
  refine Wi rfl (fun hi3=>?_) (fun hi3=>?_)
  ·have hn:m.old.all (fun p=>decide (p.old.length≤200))=false:=jT default hlt (decide_eq_false (by have:=oT hi3;omega))
   refine zu1 ?_
   refine zR ?_
   exact congrArg boo (by rw[zY,hn,Bool.and_false])
  have hy:decide ((m.old.getD k default).old.length≤200)=true:=decide_eq_true (by have:=oF hi3;omega)
  refine Wj ?_
  refine aa rfl ?_
  refine zs3 ?_
  exact⟨k+1,[],(by exact⟨by omega,jL default hlt hk.2 hy⟩),(by omega),bu⟩
 have hge:m.old.length≤k:=by have:=oF hi2;omega
 have hall:m.old.all (fun p=>decide (p.old.length≤200))=true:=by have h1:=hk.2;rw[bk _ k hge]at h1;exact h1
 refine aN ?_
 refine zu1 ?_
 refine zR ?_
 exact congrArg boo (by rw[zY,hall,decide_eq_true hyes];rfl)
def pD(s:Str):Int:=if s.length=0 then -16 else if 31<s.length then -19 else if s.all (fun c=>decide (32<c.toNat))then 0 else -32
theorem GX(s:Str):ab Tryz.prog 130 [str s] (i64 (pD s)):=by
 refine pW tG (rs:=[.tmp 2]) Tryz.func130 rfl rfl rfl (by simp) (by simp) (fun B=>?_)
 refine zu1 ?_
 refine Ws ?_
 refine zp2 ?_
 refine Wa 5 rfl (kW _) ?_
 refine zs1 ?_
 refine Wi rfl (fun hi1=>?_) (fun hi1=>?_)
 ·have h0:s.length=0:=by have:=beq_iff_eq.1 hi1;omega
  refine zu1 ?_
  refine zR ?_
  rw[pD,if_pos h0];rfl
 have h0:¬s.length=0:=by have:=beq_eq_false_iff_ne.1 hi1;omega
 refine Wj ?_
 refine Ws ?_
 refine zp2 ?_
 refine Wa 8 rfl (kW _) ?_
 refine zs1 ?_
 refine Wi rfl (fun hi2=>?_) (fun hi2=>?_)
 ·have h1:31<s.length:=by have:=oT hi2;omega
  refine zu1 ?_
  refine zR ?_
  rw[pD,if_neg h0,if_pos h1];rfl
 have h1:¬31<s.length:=by have:=oF hi2;omega
 refine Wj ?_
 refine Ws ?_
 refine zu1 ?_
 refine Wl ?_
 show W _ _ _ _ _ _ _
 refine bG (fun(k:Nat)=>[(0,str s),(3,i64 k)]) (fun(k:Nat)=>[]) (fun(k:Nat)=>[]) (fun(k:Nat)=>k≤s.length∧(s.take k).all (fun c=>decide (32<c.toNat))=true) (fun(k:Nat)=>s.length-k) (0) (by simp) [] ?_ ?_
 ·exact bu
 intro k hk
 refine Ws ?_
 refine zp3 ?_
 refine Wa 12 rfl (kW _) ?_
 refine zs1 ?_
 refine Wi rfl (fun hi3=>?_) (fun hi3=>?_)
 ·have hlt:k<s.length:=by have:=oT hi3;omega
  refine Wj ?_
  refine Ws ?_
  refine Wl ?_
  refine zp2 ?_
  refine z2 ?_ (q:=(by simp only[gF];omega))
  refine Wa 18 rfl (ED _ _) ?_
  refine zs1 ?_
  refine Wi rfl (fun hi4=>?_) (fun hi4=>?_)
  ·have hn:s.all (fun c=>decide (32<c.toNat))=false:=jT 0 hlt (decide_eq_false (by have:=oT hi4;omega))
   refine zu1 ?_
   refine zR ?_
   rw[pD,if_neg h0,if_neg h1,hn];rfl
  have hy:decide (32<(s.getD k 0).toNat)=true:=decide_eq_true (by have:=oF hi4;omega)
  refine Wj ?_
  refine aa rfl ?_
  refine zs3 ?_
  exact⟨k+1,[],(by exact⟨by omega,jL 0 hlt hk.2 hy⟩),(by omega),bu⟩
 have hge:s.length≤k:=by have:=oF hi3;omega
 have hall:s.all (fun c=>decide (32<c.toNat))=true:=by have h1:=hk.2;rw[bk _ k hge]at h1;exact h1
 refine aN ?_
 refine zu1 ?_
 refine zR ?_
 rw[pD,if_neg h0,if_neg h1,hall];rfl
def oc(w:gX):Bool:=decide (pD w.name=0∧0≤w.flags∧w.flags≤7)
def lw(l:List gX):Bool:=l.all oc&&decide (l.length≤1024)
theorem Cj(l:List gX)(hl:l.length≤9223372036854775807):ab Tryz.prog 84 [sq c8 l] (boo (lw l)):=by
 refine pW tG (rs:=[.tmp 2]) Tryz.func84 rfl rfl rfl (by simp) (by simp) (fun B=>?_)
 refine zu1 ?_
 refine Ws ?_
 refine zu1 ?_
 refine Wl ?_
 show W _ _ _ _ _ _ _
 refine bG (fun(k:Nat)=>[(0,sq c8 l),(3,i64 k)]) (fun(k:Nat)=>[]) (fun(k:Nat)=>[]) (fun(k:Nat)=>k≤l.length∧(l.take k).all oc=true) (fun(k:Nat)=>l.length-k) (0) (by simp) [] ?_ ?_
 ·exact bu
 intro k hk
 refine Ws ?_
 refine zu4 ?_
 refine Wi rfl (fun hi1=>?_) (fun hi1=>?_)
 ·have hlt:k<l.length:=by have:=oT hi1;omega
  refine Wj ?_
  refine Ws ?_
  refine Wl ?_
  refine zp2 ?_
  refine Wv tG rfl rfl rfl (by omega) (iN c8 3 (fun _=>rfl) default (by omega)) ?_
  refine zy2 ?_
  refine zc rfl Tryz.func130 ((GX _) _) ?_
  refine zy2 ?_
  refine Wb 17 rfl (fun hg1=>?_) (fun hg1=>?_)
  ·have hn:l.all oc=false:=jT default hlt (decide_eq_false (fun h=>by have:=bne_iff_ne.1 hg1;omega))
   iterate 6 refine z6 ?_
   refine zy2 ?_
   iterate 6 refine z6 ?_
   refine zs1 ?_
   refine Wt rfl rfl ?_
   refine zu1 ?_
   refine zR ?_
   exact congrArg boo (by rw[lw,hn];rfl)
  have h0:pD (l.getD k default).name=0:=bne_eq_false_iff_eq.1 hg1
  refine zy2 ?_
  refine Wv tG rfl rfl rfl (by omega) (iN c8 3 (fun _=>rfl) default (by omega)) ?_
  refine zy5 ?_
  refine Wb 25 rfl (fun hg2=>?_) (fun hg2=>?_)
  ·have hn:l.all oc=false:=jT default hlt (decide_eq_false (fun h=>by have:=oT hg2;omega))
   iterate 6 refine z6 ?_
   refine zs1 ?_
   refine Wt rfl rfl ?_
   refine zu1 ?_
   refine zR ?_
   exact congrArg boo (by rw[lw,hn];rfl)
  have h1:=oF hg2
  refine zy2 ?_
  refine Wv tG rfl rfl rfl (by omega) (iN c8 3 (fun _=>rfl) default (by omega)) ?_
  refine zs4 ?_
  refine Wi rfl (fun hi2=>?_) (fun hi2=>?_)
  ·have hn:l.all oc=false:=jT default hlt (decide_eq_false (fun h=>by have:=oT hi2;omega))
   refine zu1 ?_
   refine zR ?_
   exact congrArg boo (by rw[lw,hn];rfl)
  have hy:oc (l.getD k default)=true:=decide_eq_true ⟨h0,by omega,by have:=oF hi2;omega⟩
  refine Wj ?_
  refine aa rfl ?_
  refine zs3 ?_
  exact⟨k+1,[],(by exact⟨by omega,jL default hlt hk.2 hy⟩),(by omega),bu⟩
 have hge:l.length≤k:=by have:=oF hi1;omega
 have hall:l.all oc=true:=by have h1:=hk.2;rw[bk _ k hge]at h1;exact h1
 refine aN ?_
 refine zu4 ?_
 refine zR ?_
 exact congrArg boo (by rw[lw,hall,Bool.true_and,Bool.eq_iff_iff,decide_eq_true_eq,decide_eq_true_eq];omega)
def FS(l:List gX)(most:Int):Bool:=decide ((l.length:Int)≤most)&&l.all (fun w=>decide (w.name.length≤60))
theorem Ln(l:List gX)(most:Int)(hl:l.length≤9223372036854775807):ab Tryz.prog 23 [sq c8 l,i64 most] (boo (FS l most)):=by
 refine pW tG (rs:=[.tmp 4]) Tryz.func23 rfl rfl rfl (by simp) (by simp) (fun B=>?_)
 refine zu1 ?_
 refine Ws ?_
 refine zu4 ?_
 refine Wi rfl (fun hi1=>?_) (fun hi1=>?_)
 ·have hno:¬(l.length:Int)≤most:=by have:=oT hi1;omega
  refine zu1 ?_
  refine zR ?_
  exact congrArg boo (by rw[FS,decide_eq_false hno];rfl)
 have hyes:(l.length:Int)≤most:=by have:=oF hi1;omega
 refine Wj ?_
 refine Ws ?_
 refine zu1 ?_
 refine Wl ?_
 show W _ _ _ _ _ _ _
 refine bG (fun(k:Nat)=>[(0,sq c8 l),(5,i64 k)]) (fun(k:Nat)=>[]) (fun(k:Nat)=>[]) (fun(k:Nat)=>k≤l.length∧(l.take k).all (fun w=>decide (w.name.length≤60))=true) (fun(k:Nat)=>l.length-k) (0) (by simp) [] ?_ ?_
 ·exact bu
 intro k hk
 refine Ws ?_
 refine zu4 ?_
 refine Wi rfl (fun hi2=>?_) (fun hi2=>?_)
 ·have hlt:k<l.length:=by have:=oT hi2;omega
  refine Wj ?_
  refine Ws ?_
  refine Wl ?_
  refine zp2 ?_
  refine Wv tG rfl rfl rfl (by omega) (iN c8 3 (fun _=>rfl) default (by omega)) ?_
  refine zy3 ?_
  refine Wa 21 rfl (kW _) ?_
  refine zs1 ?_
  refine Wi rfl (fun hi3=>?_) (fun hi3=>?_)
  ·have hn:l.all (fun w=>decide (w.name.length≤60))=false:=jT default hlt (decide_eq_false (by have:=oT hi3;omega))
   refine zu1 ?_
   refine zR ?_
   exact congrArg boo (by rw[FS,hn,Bool.and_false])
  have hy:decide ((l.getD k default).name.length≤60)=true:=decide_eq_true (by have:=oF hi3;omega)
  refine Wj ?_
  refine aa rfl ?_
  refine zs3 ?_
  exact⟨k+1,[],(by exact⟨by omega,jL default hlt hk.2 hy⟩),(by omega),bu⟩
 have hge:l.length≤k:=by have:=oF hi2;omega
 have hall:l.all (fun w=>decide (w.name.length≤60))=true:=by have h1:=hk.2;rw[bk _ k hge]at h1;exact h1
 refine aN ?_
 refine zu1 ?_
 refine zR ?_
 exact congrArg boo (by rw[FS,hall,decide_eq_true hyes];rfl)
def kB(v:VVm):Bool:=zY v.mem 8192&&(FS v.dict 300&&(decide (v.d.length≤300)&&(decide (v.r.length≤300)&&(decide (v.f.length≤70)&&(decide (v.out.length≤5000)&&(decide (v.pic.b.length≤200)&&(decide (v.req.length≤20)&&decide (v.hand.length≤70))))))))
structure VIn (v:VVm):Prop where
 b:v.mem.b.length≤9223372036854775807
 old:v.mem.old.length≤9223372036854775807
 dict:v.dict.length≤9223372036854775807
 pt:∀p∈v.mem.old,(p.old.length=0∨ae p.place)∧p.old.length≤9223372036854775807
theorem mP{a:Nat}{b:Int}(n:Nat)(hb:b=n):decide ((a:Int)≤b)=decide (a≤n):=by subst hb;rw[Bool.eq_iff_iff,decide_eq_true_eq,decide_eq_true_eq];omega
theorem wu(v:VVm)(h:VIn v):ab Tryz.prog 7 [eVm v] (boo (kB v)):=by
 refine pW tG (rs:=[.tmp 2]) Tryz.func7 rfl rfl rfl (by simp) (by simp) (fun B=>?_)
 refine zu2 ?_
 refine zp2 ?_
 refine zc rfl Tryz.func22 ((KJ v.mem 8192 h.b h.old) _) ?_
 refine zs1 ?_
 refine zp2 ?_
 refine zc rfl Tryz.func23 ((Ln v.dict 300 h.dict) _) ?_
 refine zs1 ?_
 refine zp2 ?_
 refine Wb 12 rfl (fun hg1=>?_) (fun hg1=>?_)
 ·refine zy3 ?_
  refine Wb 15 rfl (fun hg2=>?_) (fun hg2=>?_)
  ·refine zy4 ?_
   refine Wa 19 rfl (congrArg (fun z=>PV.val (Value.bool z)) (mP 300 rfl)) ?_
   refine zy2 ?_
   refine Wb 21 rfl (fun hg3=>?_) (fun hg3=>?_)
   ·refine zy4 ?_
    refine Wa 25 rfl (congrArg (fun z=>PV.val (Value.bool z)) (mP 300 rfl)) ?_
    refine zy2 ?_
    refine Wb 27 rfl (fun hg4=>?_) (fun hg4=>?_)
    ·refine zy4 ?_
     refine Wa 31 rfl (congrArg (fun z=>PV.val (Value.bool z)) (mP 70 rfl)) ?_
     refine zy2 ?_
     refine Wb 33 rfl (fun hg5=>?_) (fun hg5=>?_)
     ·refine zy4 ?_
      refine Wa 37 rfl (congrArg (fun z=>PV.val (Value.bool z)) (mP 5000 rfl)) ?_
      refine zy2 ?_
      refine Wb 39 rfl (fun hg6=>?_) (fun hg6=>?_)
      ·refine zy5 ?_
       refine Wa 44 rfl (congrArg (fun z=>PV.val (Value.bool z)) (mP 200 rfl)) ?_
       refine zy2 ?_
       refine Wb 46 rfl (fun hg7=>?_) (fun hg7=>?_)
       ·refine zy4 ?_
        refine Wa 50 rfl (congrArg (fun z=>PV.val (Value.bool z)) (mP 20 rfl)) ?_
        refine zy2 ?_
        refine Wb 52 rfl (fun hg8=>?_) (fun hg8=>?_)
        ·refine zy4 ?_
         refine Wa 56 rfl (congrArg (fun z=>PV.val (Value.bool z)) (mP 70 rfl)) ?_
         refine zs2 ?_
         refine zR ?_
         exact congrArg boo (by rw[kB];simp only[*,Bool.true_and,Bool.false_and])
        refine z6 ?_
        iterate 3 refine z6 ?_
        refine zs2 ?_
        refine zR ?_
        exact congrArg boo (by rw[kB];simp only[*,Bool.true_and,Bool.false_and])
       refine z6 ?_
       iterate 3 refine z6 ?_
       refine zy2 ?_
       iterate 4 refine z6 ?_
       refine zs2 ?_
       refine zR ?_
       exact congrArg boo (by rw[kB];simp only[*,Bool.true_and,Bool.false_and])
      refine z6 ?_
      iterate 4 refine z6 ?_
      refine zy2 ?_
      iterate 4 refine z6 ?_
      refine zy2 ?_
      iterate 4 refine z6 ?_
      refine zs2 ?_
      refine zR ?_
      exact congrArg boo (by rw[kB];simp only[*,Bool.true_and,Bool.false_and])
     refine z6 ?_
     iterate 3 refine z6 ?_
     refine zy2 ?_
     iterate 5 refine z6 ?_
     refine zy2 ?_
     iterate 4 refine z6 ?_
     refine zy2 ?_
     iterate 4 refine z6 ?_
     refine zs2 ?_
     refine zR ?_
     exact congrArg boo (by rw[kB];simp only[*,Bool.true_and,Bool.false_and])
    refine z6 ?_
    iterate 3 refine z6 ?_
    refine zy2 ?_
    iterate 4 refine z6 ?_
    refine zy2 ?_
    iterate 5 refine z6 ?_
    refine zy2 ?_
    iterate 4 refine z6 ?_
    refine zy2 ?_
    iterate 4 refine z6 ?_
    refine zs2 ?_
    refine zR ?_
    exact congrArg boo (by rw[kB];simp only[*,Bool.true_and,Bool.false_and])
   refine z6 ?_
   iterate 3 refine z6 ?_
   refine zy2 ?_
   iterate 4 refine z6 ?_
   refine zy2 ?_
   iterate 4 refine z6 ?_
   refine zy2 ?_
   iterate 5 refine z6 ?_
   refine zy2 ?_
   iterate 4 refine z6 ?_
   refine zy2 ?_
   iterate 4 refine z6 ?_
   refine zs2 ?_
   refine zR ?_
   exact congrArg boo (by rw[kB];simp only[*,Bool.true_and,Bool.false_and])
  refine z6 ?_
  iterate 3 refine z6 ?_
  refine zy2 ?_
  iterate 4 refine z6 ?_
  refine zy2 ?_
  iterate 4 refine z6 ?_
  refine zy2 ?_
  iterate 4 refine z6 ?_
  refine zy2 ?_
  iterate 5 refine z6 ?_
  refine zy2 ?_
  iterate 4 refine z6 ?_
  refine zy2 ?_
  iterate 4 refine z6 ?_
  refine zs2 ?_
  refine zR ?_
  exact congrArg boo (by rw[kB];simp only[*,Bool.true_and,Bool.false_and])
 refine z6 ?_
 refine zy2 ?_
 iterate 4 refine z6 ?_
 refine zy2 ?_
 iterate 4 refine z6 ?_
 refine zy2 ?_
 iterate 4 refine z6 ?_
 refine zy2 ?_
 iterate 4 refine z6 ?_
 refine zy2 ?_
 iterate 5 refine z6 ?_
 refine zy2 ?_
 iterate 4 refine z6 ?_
 refine zy2 ?_
 iterate 4 refine z6 ?_
 refine zs2 ?_
 refine zR ?_
 exact congrArg boo (by rw[kB];simp only[*,Bool.true_and,Bool.false_and])
def ly(v:VVm):Bool:=decide (dV v.conf∧fv v.mem=true∧lw v.dict=true∧cr v.pic∧(v.mem.b.length:Int)=v.conf.mem∧1368≤v.here∧v.here≤v.conf.mem)
def gv(f:dE):Bool:=decide (0≤f.d∧f.d≤256∧0≤f.r∧f.r≤256)
def rO(h:lK):Bool:=decide (0≤h.fuel)
def iV(v:VVm):Bool:=decide ((v.d.length:Int)≤v.conf.data∧(v.r.length:Int)≤v.conf.ret∧v.f.length≤64∧(v.dict.length:Int)≤v.conf.words∧(v.out.length:Int)≤v.conf.out∧v.req.length≤16∧0≤v.free∧v.free≤64∧0≤v.next∧v.next≤4611686018427387904∧v.hand.length≤64)
def dS(v:VVm):Bool:=ly v&&(v.f.all gv&&(v.hand.all rO&&iV v))
structure MC (v:VVm):Prop extends VIn v where
 f:v.f.length≤9223372036854775807
 hand:v.hand.length≤9223372036854775807
theorem zg(v:VVm)(h:MC v):ab Tryz.prog 34 [eVm v] (boo (dS v)):=by
 have e1:=h.f
 have e2:=h.hand
 refine pW tG (rs:=[.tmp 2]) Tryz.func34 rfl rfl rfl (by simp) (by simp) (fun B=>?_)
 refine zu2 ?_
 refine zp2 ?_
 refine zc rfl Tryz.func82 ((zZ v.conf) _) ?_
 refine zs1 ?_
 refine zp2 ?_
 refine zc rfl Tryz.func83 ((BG v.mem h.b h.old h.pt) _) ?_
 refine zs1 ?_
 refine zp2 ?_
 refine zc rfl Tryz.func84 ((Cj v.dict h.dict) _) ?_
 refine zs1 ?_
 refine zp2 ?_
 refine zc rfl Tryz.func85 ((Cy v.pic) _) ?_
 refine zs1 ?_
 refine Ws ?_
 refine zp3 ?_
 refine Wb 23 rfl (fun hg1=>?_) (fun hg1=>?_)
 ·have hbad:ly v=false:=decide_eq_false (fun q=>oF (g7 hg1) q.1)
  iterate 2 refine z6 ?_
  refine zy2 ?_
  iterate 2 refine z6 ?_
  refine zy2 ?_
  iterate 2 refine z6 ?_
  refine zy2 ?_
  iterate 8 refine z6 ?_
  refine zy2 ?_
  iterate 3 refine z6 ?_
  refine zy2 ?_
  iterate 6 refine z6 ?_
  refine zs1 ?_
  refine Wt rfl rfl ?_
  refine zu1 ?_
  refine zR ?_
  exact congrArg boo (by rw[dS,hbad];rfl)
 have h1:dV v.conf:=oT (ig hg1)
 refine zy4 ?_
 refine Wb 27 rfl (fun hg2=>?_) (fun hg2=>?_)
 ·have hbad:ly v=false:=decide_eq_false (fun q=>by have:=g7 hg2;rw[q.2.1]at this;cases this)
  iterate 2 refine z6 ?_
  refine zy2 ?_
  iterate 2 refine z6 ?_
  refine zy2 ?_
  iterate 8 refine z6 ?_
  refine zy2 ?_
  iterate 3 refine z6 ?_
  refine zy2 ?_
  iterate 6 refine z6 ?_
  refine zs1 ?_
  refine Wt rfl rfl ?_
  refine zu1 ?_
  refine zR ?_
  exact congrArg boo (by rw[dS,hbad];rfl)
 have h2:fv v.mem=true:=ig hg2
 refine zy4 ?_
 refine Wb 31 rfl (fun hg3=>?_) (fun hg3=>?_)
 ·have hbad:ly v=false:=decide_eq_false (fun q=>by have:=g7 hg3;rw[q.2.2.1]at this;cases this)
  iterate 2 refine z6 ?_
  refine zy2 ?_
  iterate 8 refine z6 ?_
  refine zy2 ?_
  iterate 3 refine z6 ?_
  refine zy2 ?_
  iterate 6 refine z6 ?_
  refine zs1 ?_
  refine Wt rfl rfl ?_
  refine zu1 ?_
  refine zR ?_
  exact congrArg boo (by rw[dS,hbad];rfl)
 have h3:lw v.dict=true:=ig hg3
 refine zy4 ?_
 refine Wb 35 rfl (fun hg4=>?_) (fun hg4=>?_)
 ·have hbad:ly v=false:=decide_eq_false (fun q=>oF (g7 hg4) q.2.2.2.1)
  iterate 8 refine z6 ?_
  refine zy2 ?_
  iterate 3 refine z6 ?_
  refine zy2 ?_
  iterate 6 refine z6 ?_
  refine zs1 ?_
  refine Wt rfl rfl ?_
  refine zu1 ?_
  refine zR ?_
  exact congrArg boo (by rw[dS,hbad];rfl)
 have h4:cr v.pic:=oT (ig hg4)
 refine zy5 ?_
 refine zy5 ?_
 refine Wb 45 rfl (fun hg5=>?_) (fun hg5=>?_)
 ·have hbad:ly v=false:=decide_eq_false (fun q=>bne_iff_ne.1 hg5 q.2.2.2.2.1)
  iterate 3 refine z6 ?_
  refine zy2 ?_
  iterate 6 refine z6 ?_
  refine zs1 ?_
  refine Wt rfl rfl ?_
  refine zu1 ?_
  refine zR ?_
  exact congrArg boo (by rw[dS,hbad];rfl)
 have h5:(v.mem.b.length:Int)=v.conf.mem:=bne_eq_false_iff_eq.1 hg5
 refine zy5 ?_
 refine Wb 50 rfl (fun hg6=>?_) (fun hg6=>?_)
 ·have hbad:ly v=false:=decide_eq_false (fun q=>by have:=oT hg6;omega)
  iterate 6 refine z6 ?_
  refine zs1 ?_
  refine Wt rfl rfl ?_
  refine zu1 ?_
  refine zR ?_
  exact congrArg boo (by rw[dS,hbad];rfl)
 have h6:=oF hg6
 refine zy5 ?_
 refine zs2 ?_
 refine Wi rfl (fun hi1=>?_) (fun hi1=>?_)
 ·have hbad:ly v=false:=decide_eq_false (fun q=>by have:=oT hi1;omega)
  refine zu1 ?_
  refine zR ?_
  exact congrArg boo (by rw[dS,hbad];rfl)
 have hA:ly v=true:=decide_eq_true ⟨h1,h2,h3,h4,h5,by omega,by have:=oF hi1;omega⟩
 refine Wj ?_
 refine Ws ?_
 refine zu1 ?_
 refine Wl ?_
 show W _ _ _ _ _ _ _
 refine bG (fun(k:Nat)=>[(1,.ptr 0 0),(7,i64 k)]) (fun(k:Nat)=>[.cells (cVm v) 36]) (fun(k:Nat)=>[]) (fun(k:Nat)=>k≤v.f.length∧(v.f.take k).all gv=true) (fun(k:Nat)=>v.f.length-k) (0) (by simp) [] ?_ ?_
 ·exact bu
 intro k hk
 refine Ws ?_
 refine zu5 ?_
 refine Wi rfl (fun hi2=>?_) (fun hi2=>?_)
 ·have hlt:k<v.f.length:=by have:=oT hi2;omega
  refine Wj ?_
  refine Ws ?_
  refine Wl ?_
  refine zp3 ?_
  refine Wv tG rfl rfl rfl (by omega) (iN bA 3 (fun _=>rfl) default (by omega)) ?_
  refine zy4 ?_
  refine Wb 72 rfl (fun hg7=>?_) (fun hg7=>?_)
  ·have hn:v.f.all gv=false:=jT default hlt (decide_eq_false (fun q=>by have:=oT hg7;omega))
   iterate 7 refine z6 ?_
   refine zy2 ?_
   iterate 7 refine z6 ?_
   refine zy2 ?_
   iterate 7 refine z6 ?_
   refine zs1 ?_
   refine Wt rfl rfl ?_
   refine zu1 ?_
   refine zR ?_
   exact congrArg boo (by rw[dS,hA,hn];rfl)
  have q1:=oF hg7
  refine zy3 ?_
  refine Wv tG rfl rfl rfl (by omega) (iN bA 3 (fun _=>rfl) default (by omega)) ?_
  refine zy5 ?_
  refine Wb 81 rfl (fun hg8=>?_) (fun hg8=>?_)
  ·have hn:v.f.all gv=false:=jT default hlt (decide_eq_false (fun q=>by have:=oT hg8;omega))
   iterate 7 refine z6 ?_
   refine zy2 ?_
   iterate 7 refine z6 ?_
   refine zs1 ?_
   refine Wt rfl rfl ?_
   refine zu1 ?_
   refine zR ?_
   exact congrArg boo (by rw[dS,hA,hn];rfl)
  have q2:=oF hg8
  refine zy3 ?_
  refine Wv tG rfl rfl rfl (by omega) (iN bA 3 (fun _=>rfl) default (by omega)) ?_
  refine zy5 ?_
  refine Wb 90 rfl (fun hg9=>?_) (fun hg9=>?_)
  ·have hn:v.f.all gv=false:=jT default hlt (decide_eq_false (fun q=>by have:=oT hg9;omega))
   iterate 7 refine z6 ?_
   refine zs1 ?_
   refine Wt rfl rfl ?_
   refine zu1 ?_
   refine zR ?_
   exact congrArg boo (by rw[dS,hA,hn];rfl)
  have q3:=oF hg9
  refine zy3 ?_
  refine Wv tG rfl rfl rfl (by omega) (iN bA 3 (fun _=>rfl) default (by omega)) ?_
  refine zs4 ?_
  refine Wi rfl (fun hi3=>?_) (fun hi3=>?_)
  ·have hn:v.f.all gv=false:=jT default hlt (decide_eq_false (fun q=>by have:=oT hi3;omega))
   refine zu1 ?_
   refine zR ?_
   exact congrArg boo (by rw[dS,hA,hn];rfl)
  have hy:gv (v.f.getD k default)=true:=decide_eq_true ⟨by omega,by omega,by omega,by have:=oF hi3;omega⟩
  refine Wj ?_
  refine aa rfl ?_
  refine zs3 ?_
  exact⟨k+1,[],(by exact⟨by omega,jL default hlt hk.2 hy⟩),(by omega),bu⟩
 have hge:v.f.length≤k:=by have:=oF hi2;omega
 have hF:v.f.all gv=true:=by have h1:=hk.2;rw[bk _ k hge]at h1;exact h1
 refine aN ?_
 refine Ws ?_
 refine zu1 ?_
 refine Wl ?_
 show W _ _ _ _ _ _ _
 refine bG (fun(j:Nat)=>[(1,.ptr 0 0),(8,i64 j)]) (fun(j:Nat)=>[.cells (cVm v) 36]) (fun(j:Nat)=>[]) (fun(j:Nat)=>j≤v.hand.length∧(v.hand.take j).all rO=true) (fun(j:Nat)=>v.hand.length-j) (0) (by simp) [] ?_ ?_
 ·exact bu
 intro j hj
 refine Ws ?_
 refine zu5 ?_
 refine Wi rfl (fun hi4=>?_) (fun hi4=>?_)
 ·have hlt:j<v.hand.length:=by have:=oT hi4;omega
  refine Wj ?_
  refine Ws ?_
  refine Wl ?_
  refine zp3 ?_
  refine Wv tG rfl rfl rfl (by omega) (iN iG 4 (fun _=>rfl) default (by omega)) ?_
  refine zs3 ?_
  refine Wi rfl (fun hi5=>?_) (fun hi5=>?_)
  ·have hn:v.hand.all rO=false:=jT default hlt (decide_eq_false (fun q=>by have:=oT hi5;omega))
   refine zu1 ?_
   refine zR ?_
   exact congrArg boo (by rw[dS,hA,hF,hn];rfl)
  have hy:rO (v.hand.getD j default)=true:=decide_eq_true (by have:=oF hi5;omega)
  refine Wj ?_
  refine aa rfl ?_
  refine zs3 ?_
  exact⟨j+1,[],(by exact⟨by omega,jL default hlt hj.2 hy⟩),(by omega),bu⟩
 have hge:v.hand.length≤j:=by have:=oF hi4;omega
 have hH:v.hand.all rO=true:=by have h1:=hj.2;rw[bk _ j hge]at h1;exact h1
 have hR:dS v=iV v:=by rw[dS,hA,hF,hH];rfl
 clear hA hF hH h1 h2 h3 h4 hk hj h
 refine aN ?_
 refine zp5 ?_
 refine zy3 ?_
 refine Wb 120 rfl (fun hg10=>?_) (fun hg10=>?_)
 ·refine zy5 ?_
  refine zy4 ?_
  refine Wb 129 rfl (fun hg11=>?_) (fun hg11=>?_)
  ·refine zy5 ?_
   refine z1 ?_
   refine Wb 135 rfl (fun hg12=>?_) (fun hg12=>?_)
   ·refine zy5 ?_
    refine zy4 ?_
    refine Wb 144 rfl (fun hg13=>?_) (fun hg13=>?_)
    ·refine zy5 ?_
     refine zy4 ?_
     refine Wb 153 rfl (fun hg14=>?_) (fun hg14=>?_)
     ·refine zy5 ?_
      refine z1 ?_
      refine Wb 159 rfl (fun hg15=>?_) (fun hg15=>?_)
      ·refine zy5 ?_
       refine Wb 164 rfl (fun hg16=>?_) (fun hg16=>?_)
       ·refine zy5 ?_
        refine Wb 169 rfl (fun hg17=>?_) (fun hg17=>?_)
        ·refine zy5 ?_
         refine Wb 174 rfl (fun hg18=>?_) (fun hg18=>?_)
         ·refine zy5 ?_
          refine Wb 179 rfl (fun hg19=>?_) (fun hg19=>?_)
          ·refine zy5 ?_
           refine zs1 ?_
           refine zR ?_
           refine congrArg boo ?_;rw[hR];unfold iV;rw[Bool.eq_iff_iff];(try simp only[dnL]at *);omega
          refine z6 ?_
          iterate 3 refine z6 ?_
          refine zs2 ?_
          refine zR ?_
          refine congrArg boo ?_;rw[hR];unfold iV;rw[Bool.eq_iff_iff];(try simp only[dnL]at *);omega
         refine z6 ?_
         iterate 2 refine z6 ?_
         refine zy2 ?_
         iterate 4 refine z6 ?_
         refine zs2 ?_
         refine zR ?_
         refine congrArg boo ?_;rw[hR];unfold iV;rw[Bool.eq_iff_iff];(try simp only[dnL]at *);omega
        refine z6 ?_
        iterate 2 refine z6 ?_
        refine zy2 ?_
        iterate 3 refine z6 ?_
        refine zy2 ?_
        iterate 4 refine z6 ?_
        refine zs2 ?_
        refine zR ?_
        refine congrArg boo ?_;rw[hR];unfold iV;rw[Bool.eq_iff_iff];(try simp only[dnL]at *);omega
       refine z6 ?_
       iterate 2 refine z6 ?_
       refine zy2 ?_
       iterate 3 refine z6 ?_
       refine zy2 ?_
       iterate 3 refine z6 ?_
       refine zy2 ?_
       iterate 4 refine z6 ?_
       refine zs2 ?_
       refine zR ?_
       refine congrArg boo ?_;rw[hR];unfold iV;rw[Bool.eq_iff_iff];(try simp only[dnL]at *);omega
      refine z6 ?_
      iterate 2 refine z6 ?_
      refine zy2 ?_
      iterate 3 refine z6 ?_
      refine zy2 ?_
      iterate 3 refine z6 ?_
      refine zy2 ?_
      iterate 3 refine z6 ?_
      refine zy2 ?_
      iterate 4 refine z6 ?_
      refine zs2 ?_
      refine zR ?_
      refine congrArg boo ?_;rw[hR];unfold iV;rw[Bool.eq_iff_iff];(try simp only[dnL]at *);omega
     refine z6 ?_
     iterate 3 refine z6 ?_
     refine zy2 ?_
     iterate 3 refine z6 ?_
     refine zy2 ?_
     iterate 3 refine z6 ?_
     refine zy2 ?_
     iterate 3 refine z6 ?_
     refine zy2 ?_
     iterate 3 refine z6 ?_
     refine zy2 ?_
     iterate 4 refine z6 ?_
     refine zs2 ?_
     refine zR ?_
     refine congrArg boo ?_;rw[hR];unfold iV;rw[Bool.eq_iff_iff];(try simp only[dnL]at *);omega
    refine z6 ?_
    iterate 6 refine z6 ?_
    refine zy2 ?_
    iterate 4 refine z6 ?_
    refine zy2 ?_
    iterate 3 refine z6 ?_
    refine zy2 ?_
    iterate 3 refine z6 ?_
    refine zy2 ?_
    iterate 3 refine z6 ?_
    refine zy2 ?_
    iterate 3 refine z6 ?_
    refine zy2 ?_
    iterate 4 refine z6 ?_
    refine zs2 ?_
    refine zR ?_
    refine congrArg boo ?_;rw[hR];unfold iV;rw[Bool.eq_iff_iff];(try simp only[dnL]at *);omega
   refine z6 ?_
   iterate 6 refine z6 ?_
   refine zy2 ?_
   iterate 7 refine z6 ?_
   refine zy2 ?_
   iterate 4 refine z6 ?_
   refine zy2 ?_
   iterate 3 refine z6 ?_
   refine zy2 ?_
   iterate 3 refine z6 ?_
   refine zy2 ?_
   iterate 3 refine z6 ?_
   refine zy2 ?_
   iterate 3 refine z6 ?_
   refine zy2 ?_
   iterate 4 refine z6 ?_
   refine zs2 ?_
   refine zR ?_
   refine congrArg boo ?_;rw[hR];unfold iV;rw[Bool.eq_iff_iff];(try simp only[dnL]at *);omega
  refine z6 ?_
  iterate 3 refine z6 ?_
  refine zy2 ?_
  iterate 7 refine z6 ?_
  refine zy2 ?_
  iterate 7 refine z6 ?_
  refine zy2 ?_
  iterate 4 refine z6 ?_
  refine zy2 ?_
  iterate 3 refine z6 ?_
  refine zy2 ?_
  iterate 3 refine z6 ?_
  refine zy2 ?_
  iterate 3 refine z6 ?_
  refine zy2 ?_
  iterate 3 refine z6 ?_
  refine zy2 ?_
  iterate 4 refine z6 ?_
  refine zs2 ?_
  refine zR ?_
  refine congrArg boo ?_;rw[hR];unfold iV;rw[Bool.eq_iff_iff];(try simp only[dnL]at *);omega
 refine z6 ?_
 iterate 6 refine z6 ?_
 refine zy2 ?_
 iterate 4 refine z6 ?_
 refine zy2 ?_
 iterate 7 refine z6 ?_
 refine zy2 ?_
 iterate 7 refine z6 ?_
 refine zy2 ?_
 iterate 4 refine z6 ?_
 refine zy2 ?_
 iterate 3 refine z6 ?_
 refine zy2 ?_
 iterate 3 refine z6 ?_
 refine zy2 ?_
 iterate 3 refine z6 ?_
 refine zy2 ?_
 iterate 3 refine z6 ?_
 refine zy2 ?_
 iterate 4 refine z6 ?_
 refine zs2 ?_
 refine zR ?_
 refine congrArg boo ?_;rw[hR];unfold iV;rw[Bool.eq_iff_iff];(try simp only[dnL]at *);omega
def nn(v:VVm):Bool:=kB v&&dS v
theorem xk(v:VVm)(h:MC v):ab Tryz.prog 14 [eVm v] (boo (nn v)):=by
 refine pW tG (rs:=[.tmp 2]) Tryz.func14 rfl rfl rfl (by simp) (by simp) (fun B=>?_)
 refine zu2 ?_
 refine zp1 ?_
 refine zc rfl Tryz.func7 ((wu v h.toVIn) _) ?_
 refine zs1 ?_
 refine zp2 ?_
 refine Wb 7 rfl (fun hg1=>?_) (fun hg1=>?_)
 ·refine z1 ?_
  refine zc rfl Tryz.func34 ((zg v h) _) ?_
  refine zs2 ?_
  refine zR ?_
  exact congrArg boo (by rw[nn];simp only[*,Bool.true_and,Bool.false_and])
 refine z6 ?_
 refine z6 ?_
 refine zs2 ?_
 refine zR ?_
 exact congrArg boo (by rw[nn];simp only[*,Bool.true_and,Bool.false_and])
theorem Im(n:Int):ae (wrap64 n):=gz n
theorem zK(n:Nat):ae (S n):=NV n
theorem g8:ae 0:=by unfold ae;omega
theorem qe(b:Bool):ae (dc b):=by unfold dc ae;split<;>omega
theorem zG{a b:Int}(hb:ae b)(h0:b≠0):ae (a.fmod b):=by
 unfold ae at hb ⊢
 rw[Int.fmod_eq_emod]
 have h1:=Int.emod_nonneg a h0
 have h2:a%b<b.natAbs:=by
  rcases Int.lt_or_gt_of_ne h0 with h|h
  ·have:=Int.emod_lt_of_pos a (show 0 < -b by omega);rw[Int.emod_neg]at this;omega
  have:=Int.emod_lt_of_pos a h;omega
 split<;>omega
theorem JP{a b:Int}(hb:ae b)(h0:b≠0):ae (a.tmod b):=by
 unfold ae at hb ⊢
 have h1:(a.tmod b).natAbs=a.natAbs%b.natAbs:=Int.natAbs_tmod a b
 have h2:a.natAbs%b.natAbs<b.natAbs:=Nat.mod_lt _ (by omega)
 omega
theorem xf{n:Int}(h:fU n=true):ae n:=by unfold fU at h;unfold ae;simpa using h
theorem tn{a b:Int}(hb:ae b):ae (gL a b).1∧ae (gL a b).2.1:=by
 unfold gL
 split
 ·exact⟨g8,g8⟩
 rename_i h0;exact⟨Im _,zG hb h0⟩
theorem nJ{lo hi d:Int}(hd:ae d):ae (dX lo hi d).1∧ae (dX lo hi d).2.1:=by
 unfold dX
 split
 ·exact⟨g8,g8⟩
 rename_i h0
 split
 ·rename_i h1;exact⟨xf h1,zG hd h0⟩
 exact⟨g8,g8⟩
theorem Ap{lo hi d:Int}(hd:ae d):ae (dO lo hi d).1∧ae (dO lo hi d).2.1:=by
 unfold dO
 split
 ·exact⟨g8,g8⟩
 rename_i h0
 split
 ·rename_i h1;exact⟨xf h1,JP hd h0⟩
 exact⟨g8,g8⟩
theorem qA{lo hi d:Int}:ae (dh lo hi d).1∧ae (dh lo hi d).2.1:=by
 unfold dh
 split
 ·exact⟨g8,g8⟩
 split
 ·exact⟨g8,g8⟩
 exact⟨zK _,zK _⟩
theorem Gi(a b:Int)(up:Bool):ae (jg a b up):=by
 unfold jg
 split
 ·exact g8
 split<;>exact zK _
theorem MP(o:Op1){a:Int}(ha:ae a):ae (one o a):=by
 unfold ae at *
 cases o<;>simp only[one]<;>first|exact gz _|exact qe _|(split<;>first|exact gz _|omega)|omega
theorem Nz(o:Op2){a b:Int}(ha:ae a)(hb:ae b):ae (two o a b).1:=by
 cases o<;>simp only[two]<;>first|exact(tn hb).1|exact(tn hb).2|exact Im _|exact Gi _ _ _|exact qe _|(split<;>assumption)
theorem vh(name:Str){a:Int}(ha:ae a):ae (nD name a).1:=by
 unfold nD
 split
 ·exact MP _ ha
 exact g8
theorem IY(name:Str){a b:Int}(ha:ae a)(hb:ae b):ae (gn name a b).1:=by
 unfold gn
 split
 ·exact Nz _ ha hb
 exact g8
theorem rQ(m:aV)(a:Int):ae (au m a).1:=by
 unfold au y8
 split
 ·exact Im _
 exact g8
theorem ut(m:aV)(a:Int):ae (ce m a).1:=by
 unfold ce
 split
 ·have:=(m.b.getD a.toNat 0).toNat_lt;unfold ae;simp only;omega
 exact g8
structure eV (m m':aV) (k:Nat):Prop where
 right:fv m=true→fv m'=true
 len:m'.b.length=m.b.length
 old:m'.old.length≤m.old.length+k
theorem eV.refl(m:aV)(k:Nat):eV m m k:=⟨id,rfl,Nat.le_add_right _ _⟩
theorem eV.trans{a b c:aV}{i j:Nat}(h:eV a b i)(g:eV b c j):eV a c (i+j):=⟨fun q=>g.right (h.right q),g.len.trans h.len,by have:=h.old;have:=g.old;omega⟩
theorem eV.up{a b:aV}{i j:Nat}(h:eV a b i)(hij:i≤j):eV a b j:=⟨h.right,h.len,by have:=h.old;omega⟩
theorem wW{m m':aV}(h:m'.b.length=m.b.length)(a n:Int):ay m' a n=ay m a n:=by unfold ay;rw[h]
theorem iF(m:aV)(a:Int)(b:List UInt8):eV m (bK m a b).1 1:=by
 have hl:=qq m a b
 refine⟨fun h=>?_,hl,qC m a b⟩
 unfold fv at h ⊢
 rw[hl]
 rw[Bool.and_eq_true]at h ⊢
 refine⟨?_,h.2⟩
 have hall:∀p∈m.old,ay (bK m a b).1 p.place p.old.length=true:=fun p hp=>by rw[wW hl];exact List.all_eq_true.1 h.1 p hp
 rw[List.all_eq_true]
 intro p hp
 unfold bK at hp
 split at hp
 ·rename_i ht
  split at hp
  ·exact hall p hp
  rcases List.mem_append.1 hp with hp|hp
  ·exact hall p hp
  simp only[List.mem_singleton]at hp
  subst hp
  rw[wW hl]
  simp only[List.length_take,List.length_drop]
  rcases qL ht with h0|⟨h0,h1,h2⟩
  ·unfold ay;exact decide_eq_true (.inl (by omega))
  unfold ay;exact decide_eq_true (.inr ⟨by omega,h1,by omega⟩)
 exact hall p hp
theorem cN(m:aV)(a n:Int):eV m (aG m a n).1 1:=by
 unfold aG;split
 ·exact iF _ _ _
 exact .refl _ _
theorem CI(m:aV)(a n c:Int):eV m (im m a n c).1 1:=by
 unfold im;split
 ·exact iF _ _ _
 exact .refl _ _
theorem B6(m:aV)(a b n:Int):eV m (ik m a b n).1 1:=by
 unfold ik;split
 ·exact iF _ _ _
 exact .refl _ _
theorem rE{m:aV}{here:Int}(b:List UInt8):eV m (gl m here b).1 1:=by
 unfold gl;split
 ·exact .refl _ _
 exact iF _ _ _
theorem uq{m:aV}{here:Int}(b:List UInt8)(h0:1368≤here)(h1:here≤m.b.length):1368≤(gl m here b).2.1∧(gl m here b).2.1≤m.b.length:=by
 unfold gl;split
 ·exact⟨h0,h1⟩
 simp only;omega
theorem pR{p:ca}(c:Int)(h:cr p):cr (eT p c).1:=by
 unfold eT;split
 ·rename_i hc;exact⟨by simp;omega,.inl hc.1⟩
 exact h
theorem nS{p:ca}(lo hi base:Int)(h:cr p):cr (aw p lo hi base).1:=by
 unfold aw;split
 ·exact h
 split
 ·exact pR _ h
 exact h
theorem uJ(base:Int):∀(n:Nat) {q:ca} (lo hi:Int),cr q→cr (mH n q lo hi base).1
 | 0,q,lo,hi,h=>h
 | n+1,q,lo,hi,h=>by
  unfold mH
  split
  ·exact h
  split
  ·exact nS _ _ _ h
  exact uJ base n _ _ (nS _ _ _ h)
theorem FG{p:ca}(lo hi base:Int)(h:cr p):cr (lp p lo hi base).1:=by
 unfold lp rK
 split
 ·exact uJ base _ _ _ h
 exact h
theorem Bv{p:ca}(n:Int)(h:cr p):cr (iZ p n).1:=by
 unfold iZ;split
 ·exact h
 exact pR _ h
theorem wT{p:ca}{lo hi base:Int}(hl:ae lo)(hh:ae hi):ae (aw p lo hi base).2.1∧ae (aw p lo hi base).2.2.1:=by
 unfold aw;split
 ·exact⟨hl,hh⟩
 split
 ·exact⟨qA.1,qA.1⟩
 exact⟨hl,hh⟩
end Go.Proofs.YtiibjcnedbncjaaGreatDoor
