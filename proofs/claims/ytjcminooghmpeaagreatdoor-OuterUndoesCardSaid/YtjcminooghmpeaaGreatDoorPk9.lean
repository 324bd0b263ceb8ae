import Derived.Test.YtjcminooghmpeaaGreatDoorPk8
set_option linter.all false
set_option maxRecDepth 100000
set_option maxHeartbeats 40000000
open Go.Proofs.Tryz
namespace Go.Proofs.YtjcminooghmpeaaGreatDoor
open Go.RowKit
def aa2(a:Addr)(k:PW){k':PW}(h:k'.r=k.r){e:TypeId}{H:List Ob}:Rk (.cells (cPW a k) e::H) ((Ob.cells (cPW a k) e::H).set 0 (.cells (cPW a k') e)):=fun xs e h1=>by
 simp only[List.getElem?_cons_zero,Option.some.injEq,Ob.cells.injEq]at h1
 obtain⟨rfl,rfl⟩:=h1
 refine⟨_,rfl,?_⟩
 have hl:∀r:bD,(si r).length=27:=fun r=>rfl
 unfold cPW
 rw[List.take_left' (hl _),List.take_left' (hl _),h]
def fr1(x:ja):PV.seq 1 [i64 x.d,i64 x.r,i64 x.ip] .clip=.seq (List.length [x]) (List.flatMap jc [x]) .clip:=rfl
section
variable (a : Addr) (k : PW) {M : Nat} (h : KX M k) (hM : M <= 900000)
include h
theorem MP(b:Int)(hb:ab b):∀(H:List Ob) (i:Nat),H[i]?=some (.cells (cPW a k) 197)->HC prog 164 (.ptr i 0::[i64 b]) H (.tup []) (H.set i (.cells (cPW a (eW k b)) 197)):=by
 have f1:=gK h b
 have f2:=gK f1.1 (W64 (b+8))
 refine zM func164 fun B=>?_
 refine zp2 ?_
 refine zc rfl func116 ((jL a k h b hb) _ _ rfl) ?_
 refine zy3 ?_
 refine zc rfl func116 ((jL a _ f1.1 _ (cR _)) _ _ rfl) ?_
 refine zs2 ?_
 refine Ws<|zp3 ?_
 refine Wd rfl rfl (co (lO tG rfl) rfl rfl rfl rfl) ?_
 refine Wd rfl rfl (aW rfl (by kernel_rfl) rfl (by exact sD _ _)) ?_
 refine z1 ?_
 refine Wb 19 rfl (fun hg1=>?_) (fun hg1=>?_)
 ·refine zy3 ?_
  refine Wb 22 rfl (fun hg2=>?_) (fun hg2=>?_)
  ·refine z6 ?_
   iterate 2 refine z6 ?_
   refine zs2 ?_
   refine Wt rfl rfl ?_
   refine aa rfl ?_
   refine zy5 ?_
   refine z1 ?_
   refine zc rfl func161 ((qQ a _ _ _) _ _ rfl) ?_
   refine Wn<|zp5 ?_
   refine z1 ?_
   refine zc rfl func116 ((jL a _ (by exact ot f2.1 f2.1.v _) _ (cR _)) _ _ rfl) ?_
   refine zs1 ?_
   refine zu2 ?_
   refine Wi rfl (fun hi1=>?_) (fun hi1=>?_)
   ·refine aa rfl ?_
    refine zy2 ?_
    refine zc rfl func198 ((tW a _ _) _ _ rfl) ?_
    refine Wn<|bg rfl rfl ?_ ?_
    ·rfl
    exact congrArg (cPW a) (by unfold eW;dsimp only;(simp only[hg1,hg2,Bool.true_and,Bool.true_or,if_true]);(rw[if_neg (by simpa using hi1)]))
   refine Wj<|bg rfl rfl ?_ ?_
   ·rfl
   exact congrArg (cPW a) (by unfold eW;dsimp only;(simp only[hg1,hg2,Bool.true_and,Bool.true_or,if_true]);(rw[if_pos (by simpa using hi1)]))
  refine zs5 ?_
  refine Wi rfl (fun hi2=>?_) (fun hi2=>?_)
  ·refine aa rfl ?_
   refine zy5 ?_
   refine z1 ?_
   refine zc rfl func161 ((qQ a _ _ _) _ _ rfl) ?_
   refine Wn<|zp5 ?_
   refine z1 ?_
   refine zc rfl func116 ((jL a _ (by exact ot f2.1 f2.1.v _) _ (cR _)) _ _ rfl) ?_
   refine zs1 ?_
   refine zu2 ?_
   refine Wi rfl (fun hi1=>?_) (fun hi1=>?_)
   ·refine aa rfl ?_
    refine zy2 ?_
    refine zc rfl func198 ((tW a _ _) _ _ rfl) ?_
    refine Wn<|bg rfl rfl ?_ ?_
    ·rfl
    exact congrArg (cPW a) (by unfold eW;dsimp only;(simp only[hg1,hg2,hi2,Bool.true_and,Bool.false_or,if_true,Bool.false_eq_true,if_false]);(rw[if_neg (by simpa using hi1)]))
   refine Wj<|bg rfl rfl ?_ ?_
   ·rfl
   exact congrArg (cPW a) (by unfold eW;dsimp only;(simp only[hg1,hg2,hi2,Bool.true_and,Bool.false_or,if_true,Bool.false_eq_true,if_false]);(rw[if_pos (by simpa using hi1)]))
  refine Wj<|zp5 ?_
  refine z1 ?_
  refine zc rfl func116 ((jL a _ (by exact f2.1) _ (cR _)) _ _ rfl) ?_
  refine zs1 ?_
  refine zu2 ?_
  refine Wi rfl (fun hi1=>?_) (fun hi1=>?_)
  ·refine aa rfl ?_
   refine zy2 ?_
   refine zc rfl func198 ((tW a _ _) _ _ rfl) ?_
   refine Wn<|bg rfl rfl ?_ ?_
   ·rfl
   exact congrArg (cPW a) (by unfold eW;dsimp only;(simp only[hg1,hg2,hi2,Bool.true_and,Bool.false_or,if_true,Bool.false_eq_true,if_false]);(rw[if_neg (by simpa using hi1)]))
  refine Wj<|bg rfl rfl ?_ ?_
  ·rfl
  exact congrArg (cPW a) (by unfold eW;dsimp only;(simp only[hg1,hg2,hi2,Bool.true_and,Bool.false_or,if_true,Bool.false_eq_true,if_false]);(rw[if_pos (by simpa using hi1)]))
 refine z6 ?_
 iterate 6 refine z6 ?_
 refine zs1 ?_
 refine Wf rfl rfl ?_
 refine Wj<|zp5 ?_
 refine z1 ?_
 refine zc rfl func116 ((jL a _ (by exact f2.1) _ (cR _)) _ _ rfl) ?_
 refine zs1 ?_
 refine zu2 ?_
 refine Wi rfl (fun hi1=>?_) (fun hi1=>?_)
 ·refine aa rfl ?_
  refine zy2 ?_
  refine zc rfl func198 ((tW a _ _) _ _ rfl) ?_
  refine Wn<|bg rfl rfl ?_ ?_
  ·rfl
  exact congrArg (cPW a) (by unfold eW;dsimp only;(simp only[hg1,Bool.false_and,Bool.false_eq_true,if_false]);(rw[if_neg (by simpa using hi1)]))
 refine Wj<|bg rfl rfl ?_ ?_
 ·rfl
 exact congrArg (cPW a) (by unfold eW;dsimp only;(simp only[hg1,Bool.false_and,Bool.false_eq_true,if_false]);(rw[if_pos (by simpa using hi1)]))
include hM in
theorem Y4(name:Str):∀(H:List Ob) (i:Nat),H[i]?=some (.cells (cPW a k) 197)->HC prog 208 (.ptr i 0::[str name]) H (.tup []) (H.set i (.cells (cPW a (Gj k name)) 197)):=by
 have hf:=h.v.f
 have hf2:=(i4 h).1.v.f
 have hf3:=(ot (i4 h).1 (i4 h).1.v (-5)).v.f
 have w1:IntKind.i64.wrap ((k.r.vm.f.length:Int)-1)=(k.r.vm.f.length:Int)-1:=by((rw[bB];unfold wrap64;(try simp only[dnL]at *);omega))
 refine zM func208 fun B=>?_
 refine zu1 ?_
 refine Wl<|zp1 ?_
 refine zq 17 ?_
 refine zs1 ?_
 refine Wi rfl (fun hi1=>?_) (fun hi1=>?_)
 ·obtain rfl:=oT hi1
  refine zp5 ?_
  refine zs3 ?_
  refine Ws<|zu2 ?_
  refine Wi rfl (fun hi2=>?_) (fun hi2=>?_)
  ·have h0:k.r.vm.f.length=0:=by(try simp only[dnL]at *);omega
   refine zp5 ?_
   refine z1 ?_
   refine zc rfl func161 ((qQ a k _ _) _ _ rfl) ?_
   refine Wn<|Wq<|jU rfl rfl ?_ ?_
   ·rfl
   show cPW a _=cPW a (kD k);rw[kD,if_pos h0]
  have h0:¬k.r.vm.f.length=0:=by(try simp only[dnL]at *);omega
  have e0:(k.r.vm.f.length:Int)-1=((k.r.vm.f.length-1:Nat):Int):=by omega
  refine Wj<|zp5 ?_
  refine zy4 ?_
  refine Wa 42 rfl (zI9 (w1.trans e0)) ?_
  refine Wv tG rfl rfl rfl (by omega) (iN jc 3 (fun _=>rfl) default (by omega)) ?_
  refine zy5 ?_
  refine dh (zs:=cPW a ({k with r:={k.r with ip:=(k.r.vm.f.getD (k.r.vm.f.length-1) default).ip}})) (lO tG rfl) rfl rfl rfl rfl rfl rfl rfl rfl rfl rfl rfl ?_
  refine Wn<|zp5 ?_
  refine zy4 ?_
  refine Wa 57 rfl (zI9 (w1.trans e0)) ?_
  refine z2 ?_ (q:=(by(simp_all;done)))
  refine Wa 58 rfl (cF jc 3 (fun _=>rfl) (by(simp only[dnL]at *;omega))) ?_
  refine zy4 ?_
  refine dh (zs:=cPW a ({k with r:={k.r with ip:=(k.r.vm.f.getD (k.r.vm.f.length-1) default).ip,vm:={k.r.vm with f:=k.r.vm.f.take (k.r.vm.f.length-1)}}})) (lO tG rfl) rfl rfl rfl rfl rfl rfl rfl rfl rfl rfl rfl ?_
  refine Wn<|aa rfl ?_
  refine z1 ?_
  refine zc rfl func163 ((jQ a {k with r:={k.r with ip:=(k.r.vm.f.getD (k.r.vm.f.length-1) default).ip,vm:={k.r.vm with f:=k.r.vm.f.take (k.r.vm.f.length-1)}}} (OD h h0) 0) _ _ rfl) ?_
  refine Wn<|bg rfl rfl ?_ ?_
  ·rfl
  (show cPW a _=cPW a (kD k);rw[kD,if_neg h0])
 refine zp1 ?_
 refine zq 66 ?_
 refine zs1 ?_
 refine Wi rfl (fun hi3=>?_) (fun hi3=>?_)
 ·obtain rfl:=oT hi3
  refine Ws<|am [0,0,0,0,0,1,1805,0,0,0,0,1804,0,0,0] [0,1,2,3,4,7,8,9,10,11,12,5,6,13,14] mG rfl (by kernel_rfl) ?_
  iterate 9 refine z3 ?_
  refine Sb (lO tG rfl) rfl rfl rfl rfl rfl rfl rfl rfl rfl ?_
  refine z3 ?_
  refine z5 ?_
  refine RS rfl rfl rfl rfl (dC rfl func116 rfl rfl ((jL a k h _ h.ip) _ _ rfl)) (aa2 a k (ye)) ?_
  iterate 2 refine z3 ?_
  refine ap ?_
  refine zp5 ?_
  refine zy3 ?_
  refine zc rfl func257 ((yZ _ _ _ ((gK h k.r.ip).1.v.mem (by omega)) (cR _) (gK h k.r.ip).2) _) ?_
  refine zs5 ?_
  refine zp5 ?_
  refine zy2 ?_
  refine zc rfl func161 ((qQ a _ _ _) _ _ rfl) ?_
  refine Wn<|zp2 ?_
  refine zc rfl func163 ((jQ a _ (ot (gK h _).1 (gK h _).1.v _) _) _ _ rfl) ?_
  refine Wn<|zp2 ?_
  refine zc rfl func163 ((jQ a _ (uM (ot (gK h _).1 (gK h _).1.v _) (cR _)) _) _ _ rfl) ?_
  refine Wn<|aa rfl ?_
  refine zy4 ?_
  refine zc rfl func244 ((Kp _ _ (cR _)) _) ?_
  refine zy5 ?_
  refine z1 ?_
  refine dh (zs:=cPW a (Ir k)) (lO tG rfl) rfl rfl rfl rfl rfl rfl rfl rfl rfl rfl rfl ?_
  refine Wn<|bg rfl rfl ?_ ?_
  ·rfl
  rfl
 refine zp1 ?_
 refine zq 118 ?_
 refine zs1 ?_
 refine Wi rfl (fun hi4=>?_) (fun hi4=>?_)
 ·obtain rfl:=oT hi4
  refine aa rfl ?_
  refine zy2 ?_
  refine zc rfl func206 ((oC a k h) _ _ rfl) ?_
  refine zc rfl func198 ((tW a _ _) _ _ rfl) ?_
  refine Wn<|bg rfl rfl ?_ ?_
  ·rfl
  rfl
 refine zp1 ?_
 refine zq 124 ?_
 refine zs1 ?_
 refine Wi rfl (fun hi5=>?_) (fun hi5=>?_)
 ·obtain rfl:=oT hi5
  refine zp1 ?_
  refine zc rfl func206 ((oC a k h) _ _ rfl) ?_
  refine zs1 ?_
  refine Ws<|zp5 ?_
  refine zs3 ?_
  refine Wi rfl (fun hi6=>?_) (fun hi6=>?_)
  ·refine aa rfl ?_
   refine zy5 ?_
   refine z1 ?_
   refine zc rfl func161 ((qQ a _ _ _) _ _ rfl) ?_
   refine Wn<|Ws<|am [0,0,0,0,0,0,1,0,0,0,0,0,0,1,0,0,0,0,0,0,1,0,0,0,0,0,1,0,0,0,0,0,0,0,3] [0,1,2,3,4,5,6,7,8,9,10,11,12,13,14,15,16,17,18,19,20,21,22,23,24,25,26,27,28,29,30,31,32,33,34] mG rfl (by kernel_rfl) ?_
   iterate 6 refine z3 ?_
   refine z5 ?_
   refine Xc rfl rfl rfl rfl (fun _=>dC rfl func258 rfl rfl ((w7 _ (by(have:=(i4 h).1.v.f;omega))) _)) ?_
   iterate 5 refine z3 ?_
   refine z5 ?_
   iterate 6 refine z3 ?_
   refine z5 ?_
   iterate 5 refine z3 ?_
   refine z5 ?_
   iterate 2 refine z3 ?_
   refine Xa 170 rfl (fr1 ⟨_,_,_⟩) ?_
   refine fN rfl rfl rfl rfl (fun _=>cg (lO tG rfl) rfl (lO tG rfl) (lO tG rfl) rfl rfl (by exact⟨_,rfl⟩) (by exact⟨rfl,rfl,al _ 3 (fun _=>rfl) _,bi _ (fun _=>rfl) _⟩) (by exact al _ 3 (fun _=>rfl) _) (by((simp_all;omega))) (by((simp_all;omega))) (by exact fp (bo (fun x=>by simp) _) (bo (fun x=>by simp) _))) ?_
   refine Xa 171 rfl (bT jc) ?_
   iterate 4 refine z3 ?_
   refine kM rfl rfl rfl rfl (bH (lO tG rfl) rfl rfl rfl rfl rfl rfl rfl) ?_
   refine ap ?_
   refine zp4 ?_
   refine dh (zs:=cPW a (wFr (pOk (aY k).1 (aY k).1.r.vm (-5)))) (lO tG rfl) rfl rfl rfl rfl rfl rfl rfl rfl rfl rfl rfl ?_
   refine Wn<|aa rfl ?_
   refine zy2 ?_
   refine zc rfl func198 ((tW a _ _) _ _ rfl) ?_
   refine Wn<|bg rfl rfl ?_ ?_
   ·rfl
   (show cPW a _=cPW a (nX k);rw[nX,if_pos (oT hi6)])
  refine Wj<|Ws<|am [0,0,0,0,0,0,1,0,0,0,0,0,0,1,0,0,0,0,0,0,1,0,0,0,0,0,1,0,0,0,0,0,0,0,3] [0,1,2,3,4,5,6,7,8,9,10,11,12,13,14,15,16,17,18,19,20,21,22,23,24,25,26,27,28,29,30,31,32,33,34] mG rfl (by kernel_rfl) ?_
  iterate 6 refine z3 ?_
  refine z5 ?_
  refine Xc rfl rfl rfl rfl (fun _=>dC rfl func258 rfl rfl ((w7 _ (by(have:=(i4 h).1.v.f;omega))) _)) ?_
  iterate 5 refine z3 ?_
  refine z5 ?_
  iterate 6 refine z3 ?_
  refine z5 ?_
  iterate 5 refine z3 ?_
  refine z5 ?_
  iterate 2 refine z3 ?_
  refine Xa 170 rfl (fr1 ⟨_,_,_⟩) ?_
  refine fN rfl rfl rfl rfl (fun _=>cg (lO tG rfl) rfl (lO tG rfl) (lO tG rfl) rfl rfl (by exact⟨_,rfl⟩) (by exact⟨rfl,rfl,al _ 3 (fun _=>rfl) _,bi _ (fun _=>rfl) _⟩) (by exact al _ 3 (fun _=>rfl) _) (by((simp_all;omega))) (by((simp_all;omega))) (by exact fp (bo (fun x=>by simp) _) (bo (fun x=>by simp) _))) ?_
  refine Xa 171 rfl (bT jc) ?_
  iterate 4 refine z3 ?_
  refine kM rfl rfl rfl rfl (bH (lO tG rfl) rfl rfl rfl rfl rfl rfl rfl) ?_
  refine ap ?_
  refine zp4 ?_
  refine dh (zs:=cPW a (wFr (aY k).1)) (lO tG rfl) rfl rfl rfl rfl rfl rfl rfl rfl rfl rfl rfl ?_
  refine Wn<|aa rfl ?_
  refine zy2 ?_
  refine zc rfl func198 ((tW a _ _) _ _ rfl) ?_
  refine Wn<|bg rfl rfl ?_ ?_
  ·rfl
  (show cPW a _=cPW a (nX k);rw[nX,if_neg (oF hi6)])
 refine zp1 ?_
 refine zq 184 ?_
 refine zs1 ?_
 refine Wi rfl (fun hi7=>?_) (fun hi7=>?_)
 ·obtain rfl:=oT hi7
  refine zp1 ?_
  refine zc rfl func206 ((oC a k h) _ _ rfl) ?_
  refine zs1 ?_
  refine aa rfl ?_
  refine zy5 ?_
  refine zy2 ?_
  refine zc rfl func161 ((qQ a _ _ _) _ _ rfl) ?_
  refine Wn<|bg rfl rfl ?_ ?_
  ·rfl
  rfl
 refine zp1 ?_
 refine zq 196 ?_
 refine zs1 ?_
 refine Wi rfl (fun hi8=>?_) (fun hi8=>?_)
 ·obtain rfl:=oT hi8
  refine aa rfl ?_
  refine zy2 ?_
  refine zc rfl func255 ((wS a k h 0 (by decide)) _ _ rfl) ?_
  refine zc rfl func163 ((jQ a _ (pR h _).1 _) _ _ rfl) ?_
  refine Wn<|bg rfl rfl ?_ ?_
  ·rfl
  rfl
 refine zp1 ?_
 refine zq 202 ?_
 refine zs1 ?_
 refine Wi rfl (fun hi9=>?_) (fun hi9=>?_)
 ·obtain rfl:=oT hi9
  refine aa rfl ?_
  refine zy2 ?_
  refine zc rfl func255 ((wS a k h 2 (by decide)) _ _ rfl) ?_
  refine zc rfl func163 ((jQ a _ (pR h _).1 _) _ _ rfl) ?_
  refine Wn<|bg rfl rfl ?_ ?_
  ·rfl
  rfl
 refine zp1 ?_
 refine zq 208 ?_
 refine zs1 ?_
 refine Wi rfl (fun hi10=>?_) (fun hi10=>?_)
 ·obtain rfl:=oT hi10
  refine zp1 ?_
  refine zc rfl func255 ((wS a k h 1 (by decide)) _ _ rfl) ?_
  refine Wn<|zp1 ?_
  refine zc rfl func204 ((qL a _ (pR h _).1) _ _ rfl) ?_
  refine Wn<|aa rfl ?_
  refine z1 ?_
  refine zc rfl func204 ((qL a _ (iM (pR h _).1).1) _ _ rfl) ?_
  refine Wn<|bg rfl rfl ?_ ?_
  ·rfl
  rfl
 refine zp1 ?_
 refine zq 216 ?_
 refine zs1 ?_
 refine Wi rfl (fun hi11=>?_) (fun hi11=>?_)
 ·obtain rfl:=oT hi11
  refine aa rfl ?_
  refine zy2 ?_
  refine zc rfl func206 ((oC a k h) _ _ rfl) ?_
  refine zc rfl func162 ((lH a _ (i4 h).1 _) _ _ rfl) ?_
  refine Wn<|bg rfl rfl ?_ ?_
  ·rfl
  rfl
 refine zp1 ?_
 refine zq 222 ?_
 refine zs1 ?_
 refine Wi rfl (fun hi12=>?_) (fun hi12=>?_)
 ·obtain rfl:=oT hi12
  refine aa rfl ?_
  refine zy2 ?_
  refine zc rfl func204 ((qL a k h) _ _ rfl) ?_
  refine zc rfl func163 ((jQ a _ (iM h).1 _) _ _ rfl) ?_
  refine Wn<|bg rfl rfl ?_ ?_
  ·rfl
  rfl
 refine zp1 ?_
 refine zq 228 ?_
 refine zs1 ?_
 refine Wi rfl (fun hi13=>?_) (fun hi13=>?_)
 ·obtain rfl:=oT hi13
  refine aa rfl ?_
  refine zy2 ?_
  refine zc rfl func255 ((wS a k h 0 (by decide)) _ _ rfl) ?_
  refine zc rfl func163 ((jQ a _ (pR h _).1 _) _ _ rfl) ?_
  refine Wn<|bg rfl rfl ?_ ?_
  ·rfl
  rfl
 refine zp1 ?_
 refine zq 234 ?_
 refine zs1 ?_
 refine Wi rfl (fun hi14=>?_) (fun hi14=>?_)
 ·obtain rfl:=oT hi14
  refine zp1 ?_
  refine zc rfl func206 ((oC a k h) _ _ rfl) ?_
  refine z1 ?_
  refine zc rfl func206 ((oC a _ (i4 h).1) _ _ rfl) ?_
  refine zs2 ?_
  refine zp2 ?_
  refine zc rfl func162 ((lH a _ (i4 (i4 h).1).1 _) _ _ rfl) ?_
  refine Wn<|aa rfl ?_
  refine zy2 ?_
  refine zc rfl func162 ((lH a _ (uE (i4 (i4 h).1).1 (i4 (i4 h).1).2) _) _ _ rfl) ?_
  refine Wn<|bg rfl rfl ?_ ?_
  ·rfl
  rfl
 refine zp1 ?_
 refine zq 246 ?_
 refine zs1 ?_
 refine Wi rfl (fun hi15=>?_) (fun hi15=>?_)
 ·obtain rfl:=oT hi15
  refine zp1 ?_
  refine zc rfl func204 ((qL a k h) _ _ rfl) ?_
  refine z1 ?_
  refine zc rfl func204 ((qL a _ (iM h).1) _ _ rfl) ?_
  refine zs2 ?_
  refine zp2 ?_
  refine zc rfl func163 ((jQ a _ (iM (iM h).1).1 _) _ _ rfl) ?_
  refine Wn<|aa rfl ?_
  refine zy2 ?_
  refine zc rfl func163 ((jQ a _ (uM (iM (iM h).1).1 (iM (iM h).1).2) _) _ _ rfl) ?_
  refine Wn<|bg rfl rfl ?_ ?_
  ·rfl
  rfl
 refine Wj<|bg rfl rfl ?_ ?_
 ·rfl
 (rw[Gj,if_neg (oF hi1),if_neg (oF hi3),if_neg (oF hi4),if_neg (oF hi5),if_neg (oF hi7),if_neg (oF hi8),if_neg (oF hi9),if_neg (oF hi10),if_neg (oF hi11),if_neg (oF hi12),if_neg (oF hi13),if_neg (oF hi14),if_neg (oF hi15)])
end
open Go.RowKit
def etV:Value:=.iface 221 (.agg #[.pointer (some ⟨5,87,none⟩)])
def fS(a:Addr):List Ob:=[.glob 1 (haltV a),.glob 0 etV]
def ey(a:Addr):∀o∈fS a,∃g u,o=.glob g u:=fun o h=>by
 unfold fS at h
 simp at h
 rcases h with h|h<;>exact⟨_,_,h⟩
def bO{a:Addr}{H:List Ob}(i j:Nat)(h1:H[i]?=some (.glob 1 (haltV a)))(h2:H[j]?=some (.glob 0 etV)):∀o∈fS a,∃k:Nat,H[k]?=some o:=fun o h=>by
 unfold fS at h
 simp at h
 rcases h with h|h
 ·subst h;exact⟨i,h1⟩
 subst h;exact⟨j,h2⟩
section
variable (a : Addr) (k : PW) {M : Nat} (h : KX M k) (hM : M <= 900000)
include h hM
def Mv(name:Str):∀(H:List Ob) (i:Nat),H[i]?=some (.cells (cPW a k) 197)->(∀o∈fS a,∃k:Nat,H[k]?=some o)->HC prog 167 (.ptr i 0::[str name]) H (.tup []) (H.set i (.cells (cPW a (lX k name)) 197)):=by
 have p1:=i4 h
 have p2:=i4 p1.1
 have u1:=uM p2.1 p2.2
 have u2:=uM u1 p1.2
 have u3:=YA u2 (cR ((db (db (aY (aY k).1).1 (aY (aY k).1).2) (aY k).2).r.ip+8))
 have v1:=i4 u3
 have v2:=i4 v1.1
 refine ls (ey a) tG (rs:=[]) func167 rfl rfl rfl (by simp) (by simp) (by simp) (by simp) (fun B=>?_)
 refine zu1 ?_
 refine Wl<|Ws<|Wl<|Ws<|Wl<|Ws<|Wl<|Ws<|Wl<|Ws<|Wl<|Ws<|Wl<|Ws<|Wl<|Ws<|Wl<|Ws<|Wl<|Ws<|Wl<|Ws<|Wl ?_
 iterate 2 refine Ws ?_
 refine zp1 ?_
 refine zq 10 ?_
 refine zs1 ?_
 refine Wi rfl (fun hi1=>?_) (fun hi1=>?_)
 ·obtain rfl:=oT hi1
  refine aU ?_
  refine aa rfl ?_
  refine z1 ?_
  refine zc rfl func203 ((ag8 a k h hM) _ _ rfl) ?_
  refine Wn<|zp2 ?_
  refine zc rfl func204 ((qL a _ (by exact U4 h)) _ _ rfl) ?_
  refine zy3 ?_
  refine dh (zs:=cPW a (sa (mb k))) (lO tG rfl) rfl rfl rfl rfl rfl rfl rfl rfl rfl rfl rfl ?_
  refine Wn<|aU ?_
  refine bg rfl rfl ?_ ?_
  ·rfl
  rfl
 refine Wj<|Ws<|zp1 ?_
 refine zq 12 ?_
 refine zs1 ?_
 refine Wi rfl (fun hi2=>?_) (fun hi2=>?_)
 ·obtain rfl:=oT hi2
  refine aU ?_
  refine zp2 ?_
  refine zc rfl func204 ((qL a _ (by exact h)) _ _ rfl) ?_
  refine zy3 ?_
  refine dh (zs:=cPW a (sa k)) (lO tG rfl) rfl rfl rfl rfl rfl rfl rfl rfl rfl rfl rfl ?_
  refine Wn<|aU ?_
  refine bg rfl rfl ?_ ?_
  ·rfl
  rfl
 refine Wj<|Ws<|zp1 ?_
 refine zq 14 ?_
 refine zs1 ?_
 refine Wi rfl (fun hi3=>?_) (fun hi3=>?_)
 ·obtain rfl:=oT hi3
  refine aU ?_
  refine Ws<|zp5 ?_
  refine zy2 ?_
  refine zc rfl func116 ((jL a k h _ h.ip) _ _ rfl) ?_
  refine zc rfl func163 ((jQ a _ (gK h _).1 _) _ _ rfl) ?_
  refine Wn<|aa rfl ?_
  refine zy5 ?_
  refine zy4 ?_
  refine dh (zs:=cPW a (NN k)) (lO tG rfl) rfl rfl rfl rfl rfl rfl rfl rfl rfl rfl rfl ?_
  refine Wn<|aU ?_
  refine bg rfl rfl ?_ ?_
  ·rfl
  rfl
 refine Wj<|Ws<|zp1 ?_
 refine zq 16 ?_
 refine zs1 ?_
 refine Wi rfl (fun hi4=>?_) (fun hi4=>?_)
 ·obtain rfl:=oT hi4
  refine aU ?_
  refine zp1 ?_
  refine zc rfl func205 ((zz a k h true) _ _ rfl) ?_
  refine Wn<|aU ?_
  refine bg rfl rfl ?_ ?_
  ·rfl
  rfl
 refine Wj<|Ws<|zp1 ?_
 refine zq 18 ?_
 refine zs1 ?_
 refine Wi rfl (fun hi5=>?_) (fun hi5=>?_)
 ·obtain rfl:=oT hi5
  refine aU ?_
  refine zp2 ?_
  refine zc rfl func206 ((oC a k h) _ _ rfl) ?_
  refine z1 ?_
  refine zc rfl func205 ((zz a _ p1.1 _) _ _ rfl) ?_
  refine Wn<|aU ?_
  refine bg rfl rfl ?_ ?_
  ·rfl
  rfl
 refine Wj<|Ws<|zp1 ?_
 refine zq 20 ?_
 refine zs1 ?_
 refine Wi rfl (fun hi6=>?_) (fun hi6=>?_)
 ·obtain rfl:=oT hi6
  refine aU ?_
  refine Ws<|zp1 ?_
  refine zc rfl func206 ((oC a k h) _ _ rfl) ?_
  refine z1 ?_
  refine zc rfl func206 ((oC a _ p1.1) _ _ rfl) ?_
  refine zs2 ?_
  refine zu3 ?_
  refine Wi rfl (fun hi7=>?_) (fun hi7=>?_)
  ·have q7:(aY k).2=(aY (aY k).1).2:=by(try simp only[dnL]at *);exact hi7
   refine zp1 ?_
   refine zc rfl func205 ((zz a _ p2.1 true) _ _ rfl) ?_
   refine Wn<|Wq<|jU rfl rfl ?_ ?_
   ·rfl
   show cPW a _=cPW a (zm k);rw[zm,if_pos q7]
  have q7:¬(aY k).2=(aY (aY k).1).2:=by(try simp only[dnL]at *);exact hi7
  refine zp2 ?_
  refine zc rfl func163 ((jQ a _ p2.1 _) _ _ rfl) ?_
  refine Wn<|aa rfl ?_
  refine zy2 ?_
  refine zc rfl func163 ((jQ a _ u1 _) _ _ rfl) ?_
  refine Wn<|aa rfl ?_
  refine zy5 ?_
  refine zy4 ?_
  refine dh (zs:=cPW a (wIp (db (db (aY (aY k).1).1 (aY (aY k).1).2) (aY k).2) (W64 ((db (db (aY (aY k).1).1 (aY (aY k).1).2) (aY k).2).r.ip+8)))) (lO tG rfl) rfl rfl rfl rfl rfl rfl rfl rfl rfl rfl rfl ?_
  refine Wn<|Ws<|zp1 ?_
  refine zc rfl func206 ((oC a _ (by exact u3)) _ _ rfl) ?_
  refine z1 ?_
  refine zc rfl func206 ((oC a _ (by exact v1.1)) _ _ rfl) ?_
  refine zs2 ?_
  refine zp2 ?_
  refine zc rfl func162 ((lH a _ (by exact v2.1) _) _ _ rfl) ?_
  refine Wn<|aa rfl ?_
  refine zy2 ?_
  refine zc rfl func162 ((lH a _ (by exact uE v2.1 v2.2) _) _ _ rfl) ?_
  refine Wn<|aU ?_
  refine bg rfl rfl ?_ ?_
  ·rfl
  (show cPW a _=cPW a (zm k);rw[zm,if_neg q7];rfl)
 refine Wj<|Ws<|zp1 ?_
 refine zq 22 ?_
 refine zs1 ?_
 refine Wi rfl (fun hi8=>?_) (fun hi8=>?_)
 ·obtain rfl:=oT hi8
  refine aU ?_
  refine Ws<|zp1 ?_
  refine zc rfl func206 ((oC a _ (by exact h)) _ _ rfl) ?_
  refine z1 ?_
  refine zc rfl func206 ((oC a _ (by exact p1.1)) _ _ rfl) ?_
  refine zs2 ?_
  refine zp2 ?_
  refine zc rfl func162 ((lH a _ (by exact p2.1) _) _ _ rfl) ?_
  refine Wn<|aa rfl ?_
  refine zy2 ?_
  refine zc rfl func162 ((lH a _ (by exact uE p2.1 p2.2) _) _ _ rfl) ?_
  refine Wn<|aU ?_
  refine bg rfl rfl ?_ ?_
  ·rfl
  rfl
 refine Wj<|Ws<|zp1 ?_
 refine zq 24 ?_
 refine zs1 ?_
 refine Wi rfl (fun hi9=>?_) (fun hi9=>?_)
 ·obtain rfl:=oT hi9
  refine aU ?_
  refine zp1 ?_
  refine zc rfl func207 ((Rq a k h 1) _ _ rfl) ?_
  refine Wn<|aU ?_
  refine bg rfl rfl ?_ ?_
  ·rfl
  rfl
 refine Wj<|Ws<|zp1 ?_
 refine zq 26 ?_
 refine zs1 ?_
 refine Wi rfl (fun hi10=>?_) (fun hi10=>?_)
 ·obtain rfl:=oT hi10
  refine aU ?_
  refine zp2 ?_
  refine zc rfl func206 ((oC a k h) _ _ rfl) ?_
  refine zc rfl func207 ((Rq a _ p1.1 _) _ _ rfl) ?_
  refine Wn<|aU ?_
  refine bg rfl rfl ?_ ?_
  ·rfl
  rfl
 refine Wj<|zp1 ?_
 refine zq 28 ?_
 refine zs1 ?_
 refine Wi rfl (fun hi11=>?_) (fun hi11=>?_)
 ·obtain rfl:=oT hi11
  refine aU ?_
  refine zp1 ?_
  refine Wd rfl rfl (zB (j:=1) (lO tG rfl) rfl rfl rfl) ?_
  refine zy2 ?_
  refine dh (zs:=cPW a (Xk k .halt)) (lO tG rfl) rfl rfl rfl rfl rfl rfl rfl rfl rfl rfl rfl ?_
  refine Wn<|aU ?_
  refine aS rfl rfl ?_ ?_
  ·rfl
  rfl
 refine Wj<|aU ?_
 refine zp2 ?_
 refine zc rfl func208 ((Y4 a k h hM name) _ _ rfl) ?_
 refine Wn<|aU ?_
 refine bg rfl rfl ?_ ?_
 ·rfl
 (rw[lX,if_neg (oF hi1),if_neg (oF hi2),if_neg (oF hi3),if_neg (oF hi4),if_neg (oF hi5),if_neg (oF hi6),if_neg (oF hi8),if_neg (oF hi9),if_neg (oF hi10),if_neg (oF hi11)])
end
def ZK{k:PW}{e:Int}:(pOk k k.r.vm e).r=k.r:=by unfold pOk;cases k.err<;>dsimp only;split<;>rfl
section
variable (a : Addr) (k : PW) {M : Nat} (h : KX M k) (hM : M <= 900000) (hv : dn k.r.vm)
include h hM hv
def Zx(xt:Int)(hx:ab xt):∀(H:List Ob) (i:Nat),H[i]?=some (.cells (cPW a k) 197)->(∀o∈fS a,∃k:Nat,H[k]?=some o)->HC prog 117 (.ptr i 0::[i64 xt]) H (.tup []) (H.set i (.cells (cPW a (jY k xt)) 197)):=by
 have h1:=ot h h.v (az k.r.vm xt).2
 have hN:=wH
 have hv1:dn (pOk k k.r.vm (az k.r.vm xt).2).r.vm:=by rw[ZK];exact hv
 refine ls (ey a) tG (rs:=[]) func117 rfl rfl rfl (by simp) (by simp) (by simp) (by simp) (fun B=>?_)
 refine zp5 ?_
 refine z1 ?_
 refine zc rfl func67 ((qh k.r.vm xt (by have:=h.v.b;omega) hx) _) ?_
 refine zs5 ?_
 refine Ws<|zp5 ?_
 refine zy2 ?_
 refine zc rfl func161 ((qQ a k _ _) _ _ rfl) ?_
 refine zs1 ?_
 refine Wi rfl (fun hi1=>?_) (fun hi1=>?_)
 ·have q1:¬ia (pOk k k.r.vm (az k.r.vm xt).2).err=true:=by simpa using hi1
  refine Wq<|jU rfl rfl ?_ ?_
  ·rfl
  unfold jY;rw[if_neg q1]
 have q1:ia (pOk k k.r.vm (az k.r.vm xt).2).err=true:=by simpa using hi1
 have hk:=EY (gU (gS.1 q1)).2
 unfold eU at hk
 refine Wj<|Wl<|zu3 ?_
 refine Wi rfl (fun hi2=>?_) (fun hi2=>?_)
 ·have q2:300<=(az k.r.vm xt).1:=oT hi2
  refine aa rfl ?_
  refine zy5 ?_
  refine z1 ?_
  refine zc rfl func161 ((qQ a _ _ _) _ _ rfl) ?_
  refine Wn<|bg rfl rfl ?_ ?_
  ·rfl
  unfold jY;rw[if_pos q1];rw[if_pos q2]
 have q2:¬300<=(az k.r.vm xt).1:=oF hi2
 refine zu3 ?_
 refine Wi rfl (fun hi3=>?_) (fun hi3=>?_)
 ·have q3:(az k.r.vm xt).1=256:=by simpa using hi3
  refine zp5 ?_
  refine z1 ?_
  refine zc rfl func162 ((lH a _ h1 _) _ _ rfl) ?_
  refine Wn<|aa rfl ?_
  refine zy5 ?_
  refine z1 ?_
  refine dh (zs:=cPW a (wIp (iZ (pOk k k.r.vm (az k.r.vm xt).2) (pOk k k.r.vm (az k.r.vm xt).2).r.ip) (W64 (xt+8)))) (lO tG rfl) rfl rfl rfl rfl rfl rfl rfl rfl rfl rfl rfl ?_
  refine Wn<|bg rfl rfl ?_ ?_
  ·rfl
  unfold jY;rw[if_pos q1];rw[if_neg q2,if_pos q3]
 have q3:¬(az k.r.vm xt).1=256:=by simpa using hi3
 refine zu3 ?_
 refine Wi rfl (fun hi4=>?_) (fun hi4=>?_)
 ·have q4:(az k.r.vm xt).1=257:=by simpa using hi4
  refine aa rfl ?_
  refine zy3 ?_
  refine zc rfl func163 ((jQ a _ h1 _) _ _ rfl) ?_
  refine Wn<|bg rfl rfl ?_ ?_
  ·rfl
  unfold jY;rw[if_pos q1];rw[if_neg q2,if_neg q3,if_pos q4]
 have q4:¬(az k.r.vm xt).1=257:=by simpa using hi4
 refine zu3 ?_
 refine Wi rfl (fun hi5=>?_) (fun hi5=>?_)
 ·have q5:(az k.r.vm xt).1=258:=by simpa using hi5
  refine aa rfl ?_
  refine zy4 ?_
  refine zc rfl func116 ((jL a _ h1 _ (cR _)) _ _ rfl) ?_
  refine zc rfl func163 ((jQ a _ (gK h1 _).1 _) _ _ rfl) ?_
  refine Wn<|bg rfl rfl ?_ ?_
  ·rfl
  unfold jY;rw[if_pos q1];rw[if_neg q2,if_neg q3,if_neg q4,if_pos q5]
 have q5:¬(az k.r.vm xt).1=258:=by simpa using hi5
 refine zu3 ?_
 refine Wi rfl (fun hi6=>?_) (fun hi6=>?_)
 ·have q6:(az k.r.vm xt).1=259:=by simpa using hi6
  refine zp3 ?_
  refine zc rfl func116 ((jL a _ h1 _ (cR _)) _ _ rfl) ?_
  refine zs1 ?_
  refine zp3 ?_
  refine zc rfl func163 ((jQ a _ (gK h1 _).1 _) _ _ rfl) ?_
  refine Wn<|zp5 ?_
  refine z1 ?_
  refine zc rfl func162 ((lH a _ (uM (gK h1 _).1 (cR _)) _) _ _ rfl) ?_
  refine Wn<|aa rfl ?_
  refine zy5 ?_
  refine dh (zs:=cPW a (wIp (iZ (db (bq (pOk k k.r.vm (az k.r.vm xt).2) (W64 (xt+8))).1 (W64 (xt+16))) (db (bq (pOk k k.r.vm (az k.r.vm xt).2) (W64 (xt+8))).1 (W64 (xt+16))).r.ip) (bq (pOk k k.r.vm (az k.r.vm xt).2) (W64 (xt+8))).2)) (lO tG rfl) rfl rfl rfl rfl rfl rfl rfl rfl rfl rfl rfl ?_
  refine Wn<|bg rfl rfl ?_ ?_
  ·rfl
  unfold jY;rw[if_pos q1];rw[if_neg q2,if_neg q3,if_neg q4,if_neg q5,if_pos q6]
 have q6:¬(az k.r.vm xt).1=259:=by simpa using hi6
 refine zu3 ?_
 refine Wi rfl (fun hi7=>?_) (fun hi7=>?_)
 ·have q7:(az k.r.vm xt).1=260:=by simpa using hi7
  refine aa rfl ?_
  refine zy3 ?_
  refine zc rfl func164 ((MP a _ h1 _ (cR _)) _ _ rfl) ?_
  refine Wn<|bg rfl rfl ?_ ?_
  ·rfl
  unfold jY;rw[if_pos q1];rw[if_neg q2,if_neg q3,if_neg q4,if_neg q5,if_neg q6,if_pos q7]
 have q7:¬(az k.r.vm xt).1=260:=by simpa using hi7
 refine zp1 ?_
 refine zc rfl func165 ((sR _) _) ?_
 refine zs1 ?_
 refine Wi rfl (fun hi8=>?_) (fun hi8=>?_)
 ·have q8:23<=(az k.r.vm xt).1/\(az k.r.vm xt).1<=129:=oT hi8
  refine aa rfl ?_
  refine zy5 ?_
  refine zy2 ?_
  refine zc rfl func166 ((VO _ hv1 _) _) ?_
  refine zy2 ?_
  refine zc rfl func161 ((qQ a _ _ _) _ _ rfl) ?_
  refine Wn<|bg rfl rfl ?_ ?_
  ·rfl
  unfold jY;rw[if_pos q1];rw[if_neg q2,if_neg q3,if_neg q4,if_neg q5,if_neg q6,if_neg q7,if_pos q8]
 have q8:¬(23<=(az k.r.vm xt).1/\(az k.r.vm xt).1<=129):=oF hi8
 refine aa rfl ?_
 refine z1 ?_
 refine zc rfl func98 ((ny) _) ?_
 refine z1 ?_
 refine Wv tG rfl rfl rfl (by(try simp only[dnL]at *);omega) (iR fa 1 (fun _=>rfl) [] (by omega)) ?_
 refine z1 ?_
 refine zc rfl func167 (Mv a _ h1 hM _ _ _ rfl (bO 1 2 rfl rfl)) ?_
 refine Wn<|bg rfl rfl ?_ ?_
 ·rfl
 unfold jY;rw[if_pos q1];rw[if_neg q2,if_neg q3,if_neg q4,if_neg q5,if_neg q6,if_neg q7,if_neg q8]
end
open Go.RowKit
def Cd(e:Int):Prop:=-300<=e/\e<=0
def af5{e:Int}(h:Cd e):ab e:=by unfold Cd at h;unfold ab;omega
def aA4(n:Nat)(h:n<=300):Cd (-(n:Int)):=by unfold Cd;omega
def cd0:Cd 0:=by unfold Cd;omega
section
variable {α β γ : Type} {c : Prop} [Decidable c]
def Dc{a b:Int}(ha:Cd a)(hb:Cd b):Cd (if c then a else b):=by split<;>assumption
def dg{a b:α×Int}(ha:Cd a.2)(hb:Cd b.2):Cd (if c then a else b).2:=by split<;>assumption
def cw{a b:α×β×Int}(ha:Cd a.2.2)(hb:Cd b.2.2):Cd (if c then a else b).2.2:=by split<;>assumption
def Kc{a b:α×β×γ×Int}(ha:Cd a.2.2.2)(hb:Cd b.2.2.2):Cd (if c then a else b).2.2.2:=by split<;>assumption
end
def iw(n:Nat)(h:Nat.ble n 300=true):Cd (-(n:Int)):=aA4 n (Nat.le_of_ble_eq_true h)
def Sg(a b:Int):Cd (mP a b).2.2:=by unfold mP;exact cw (iw 10 rfl) cd0
def UQ(a b c:Int):Cd (il a b c).2.2:=by unfold il;exact cw (iw 10 rfl) (cw (iw 11 rfl) cd0)
def VF(a b c:Int):Cd (kY a b c).2.2:=by unfold kY;exact cw (iw 10 rfl) (cw cd0 (iw 11 rfl))
def EF(a b c:Int):Cd (jt a b c).2.2:=by unfold jt;exact cw (iw 10 rfl) (cw cd0 (iw 11 rfl))
def ai3(name:Str)(a b:Int):Cd (lJ name a b).2.2:=by
 unfold lJ
 rcases op2 name with _|o
 ·exact cd0
 cases o<;>first|exact Sg a b|exact cd0
def Oh{name:Str}{x:List Int}{r:List Int×Int}(h:qs name x=some r):Cd r.2:=by
 unfold qs at h
 rcases aj h with rfl|h
 ·exact Sg _ _
 rcases aj h with rfl|h
 ·exact EF _ _ _
 rcases aj h with rfl|h
 ·exact EF _ _ _
 rcases aj h with rfl|h
 ·exact cd0
 rcases aj h with rfl|h
 ·exact cd0
 rcases aj h with rfl|h
 ·exact UQ _ _ _
 rcases aj h with rfl|h
 ·exact VF _ _ _
 rcases aj h with rfl|h
 ·exact EF _ _ _
 iterate 7
  rcases aj h with rfl|h
  exact cd0
 cases h
def Ln(m:bf)(a:Int):Cd (cP m a):=by unfold cP;exact Dc (Dc cd0 (iw 23 rfl)) (iw 9 rfl)
def pH(m:bf)(a:Int):Cd (an m a).2:=by unfold an;exact dg cd0 (Ln _ _)
def BU(m:bf)(a:Int):Cd (dN m a).2:=by unfold dN;exact dg cd0 (iw 9 rfl)
def rL(m:bf)(a:Int)(b:List UInt8):Cd (bV m a b).2:=by unfold bV;exact dg (dg cd0 cd0) (iw 9 rfl)
def lY(m:bf)(a n:Int):Cd (aH m a n).2:=by unfold aH;exact dg (rL _ _ _) (Ln _ _)
def KM(m:bf)(a n:Int):Cd (cv m a n).2:=by unfold cv;exact dg cd0 (iw 9 rfl)
def Cy(v:VVm)(s b:Int):Cd (jW v s b):=by unfold jW;exact Dc (Dc (iw 24 rfl) cd0) (pH _ _)
def Mx{v:VVm}{name:Str}{x:List Int}{r:VVm×List Int×Int}(h:pY v name x=some r):Cd r.2.2:=by
 unfold pY at h
 rcases aj h with rfl|h
 ·exact pH _ _
 rcases aj h with rfl|h
 ·exact BU _ _
 rcases aj h with rfl|h
 ·exact lY _ _ _
 rcases aj h with rfl|h
 ·exact rL _ _ _
 rcases aj h with rfl|h
 ·unfold di ro;exact dg (lY _ _ _) (pH _ _)
 rcases aj h with rfl|h
 ·unfold kK;exact cw (pH _ _) (pH _ _)
 rcases aj h with rfl|h
 ·unfold di oe;exact dg (lY _ _ _) (lY _ _ _)
 rcases aj h with rfl|h
 ·unfold di mM;exact dg (rL _ _ _) (iw 9 rfl)
 rcases aj h with rfl|h
 ·unfold di mL;exact dg (rL _ _ _) (KM _ _ _)
 rcases aj h with rfl|h
 ·exact BU _ _
 rcases aj h with rfl|h
 ·exact lY _ _ _
 rcases aj h with rfl|h
 ·exact lY _ _ _
 rcases aj h with rfl|h
 ·unfold gB;exact cw (lY _ _ _) (Cy _ _ _)
 rcases aj h with rfl|h
 ·unfold iY;exact cw (lY _ _ _) (Cy _ _ _)
 cases h
def Jj(m:bf)(a:Int)(b:List UInt8):Cd (cJ m a b).2.2:=by unfold cJ;exact cw (iw 8 rfl) cd0
def Qk{v:VVm}{name:Str}{x:List Int}{r:VVm×List Int×Int}(h:t6 v name x=some r):Cd r.2.2:=by
 unfold t6 at h
 rcases aj h with rfl|h
 ·unfold ei tH lR;exact dg (iw 8 rfl) cd0
 rcases aj h with rfl|h
 ·unfold ei bW;exact cw (Jj _ _ _) (iw 23 rfl)
 rcases aj h with rfl|h
 ·exact Jj _ _ _
 rcases aj h with rfl|h
 ·exact Jj _ _ _
 cases h
def O0{v:VVm}{name:Str}{x:List Int}{r:Str×Int}(h:Fl v name x=some r):Cd r.2:=by
 unfold Fl at h
 iterate 4
  rcases aj h with rfl|h
  exact cd0
 rcases aj h with rfl|h
 ·exact KM _ _ _
 rcases aj h with rfl|h
 ·unfold rh iV;exact dg cd0 (iw 24 rfl)
 rcases aj h with rfl|h
 ·unfold rh gy;exact dg cd0 (iw 24 rfl)
 cases h
def Uc(v:VVm){r:Str×Int}(h:Cd r.2):Cd (dm v r).2.2:=by
 unfold dm iJ;exact cw (dg (iw 260 rfl) cd0) h
def DY(p:dL)(c:Int):Cd (gm p c).2:=by unfold gm;exact dg cd0 (iw 17 rfl)
def zy(p:dL)(a b c:Int):Cd (aN p a b c).2.2.2:=by unfold aN;exact Kc (iw 24 rfl) (Kc cd0 (DY _ _))
def K6:∀(n:Nat) (q:dL) (lo hi base:Int),Cd (qK n q lo hi base).2
 | 0,q,lo,hi,base=>zy _ _ _ _
 | n+1,q,lo,hi,base=>by unfold qK;exact dg (zy _ _ _ _) (dg cd0 (K6 n _ _ _ _))
def VB{v:VVm}{name:Str}{x:List Int}{r:VVm×List Int×Int}(h:zX v name x=some r):Cd r.2.2:=by
 unfold zX at h
 rcases aj h with rfl|h
 ·exact cd0
 rcases aj h with rfl|h
 ·exact zy _ _ _ _
 rcases aj h with rfl|h
 ·unfold fF tO OC qW;exact dg cd0 (K6 _ _ _ _ _)
 rcases aj h with rfl|h
 ·exact DY _ _
 rcases aj h with rfl|h
 ·unfold fy ow;exact dg cd0 (DY _ _)
 rcases aj h with rfl|h
 ·unfold wV lg;exact cw (rL _ _ _) (dg cd0 (iw 17 rfl))
 cases h
def GC(k:Int)(v:VVm)(x:List Int):Cd (dk k v x).2.2:=by
 unfold dk;exact cw (iw 259 rfl) (cw (iw 24 rfl) (cw (iw 257 rfl) (cw (iw 258 rfl) cd0)))
def ac9{v:VVm}{name:Str}{x:List Int}{r:VVm×List Int×Int}(h:zP v name x=some r):Cd r.2.2:=by
 unfold zP at h
 rcases aj h with rfl|h
 ·unfold jJ;exact cw (iw 259 rfl) (cw (iw 257 rfl) cd0)
 rcases aj h with rfl|h
 ·unfold jo;exact cw (iw 257 rfl) cd0
 rcases aj h with rfl|h
 ·exact GC _ _ _
 rcases aj h with rfl|h
 ·exact GC _ _ _
 cases h
def V4(v:VVm)(a:Int):Cd (az v a).2:=by unfold az;exact dg (dg cd0 (iw 9 rfl)) (pH _ _)
def W8(v:VVm)(name:Str)(x:List Int):Cd (GE v name x).2.2:=by
 unfold GE
 refine cw cd0 (cw cd0 (cw cd0 (cw cd0 (cw ?_ (iw 1 rfl)))))
 unfold va;exact cw (iw 31 rfl) (V4 _ _)
def XL(v:VVm)(n:Int)(name:Str)(x:List Int):Cd (bM v n name x).2.2:=by
 unfold bM
 refine cw (ai3 _ _ _) (cw cd0 ?_)
 rcases e0:qs name x with _|r
 rotate_left
 ·exact Oh e0
 rcases e1:pY v name x with _|r
 rotate_left
 ·exact Mx e1
 rcases e2:t6 v name x with _|r
 rotate_left
 ·exact Qk e2
 rcases e3:Fl v name x with _|r
 rotate_left
 ·exact Uc v (O0 e3)
 rcases e4:zX v name x with _|r
 rotate_left
 ·exact VB e4
 rcases e5:zP v name x with _|r
 rotate_left
 ·exact ac9 e5
 exact W8 v name x
def an7(v:VVm)(n:Int):Cd (doS v n).2:=by
 unfold doS
 refine dg (iw 24 rfl) ?_
 dsimp only
 refine dg ?_ (dg (iw 4 rfl) (dg (XL _ _ _ _) (dg (iw 3 rfl) cd0)))
 unfold dz
 exact cw cd0 (cw (iw 4 rfl) (cw (iw 3 rfl) cd0))
open Go.RowKit
def dY{P:Program}{B:Nat->Nat->Prop}{n:Nat}{all:Array Oper}{l:List Oper}{T:Nat->PV}{H H':List Ob}{K:(Nat->PV)->List Ob->Prop}(i:Nat){ob ob':Ob}(hi:H[i]?=some ob)(e:ob=ob')(hH:nfH (H.set i ob')=some H')(h1:WO P B n all l T H' K):WO P B n all l T H K:=by
 rw[r5 hH]at h1
 subst e
 have:H.set i ob=H:=by
  apply List.ext_getElem?
  intro j
  rw[List.getElem?_set]
  split
  ·rename_i h;subst h;split
   ·exact hi.symm
   rename_i h2;rw[List.getElem?_eq_none (by omega)]
  rfl
 rwa [this]at h1
def Ye:List Str:=[[73],[74],[85,78,76,79,79,80],[62,82],[82,62],[82,64],[50,62,82],[50,82,62]]
def ax2:List Str:=[[46,34],[40],[92],[91]]
def Yl:List Str:=[[59],[68,79,69,83,62],[91,39,93],[91,67,72,65,82,93],[76,73,84,69,82,65,76],[80,79,83,84,80,79,78,69],[82,69,67,85,82,83,69],[73,70],[69,76,83,69],[84,72,69,78],[66,69,71,73,78],[87,72,73,76,69],[82,69,80,69,65,84],[85,78,84,73,76],[65,71,65,73,78],[68,79],[63,68,79],[76,79,79,80],[43,76,79,79,80],[76,69,65,86,69],[83,34],[69,88,73,84]]
def inS(l:List Str)(s:Str):Bool:=l.any (fun x=>decide (x=s))
def Jl(l:List Str)(s:Str)(hl:l.length<=1000000):af prog 88 [sq fa l,str s] (boo (inS l s)):=by
 refine zY func88 fun B=>?_
 refine zu1 ?_
 refine Ws<|zu1 ?_
 refine Wl ?_
 show W _ _ _ _ _ _ _
 refine cQ (fun(k:Nat)=>[(0,sq fa l),(1,str s),(5,i64 k)]) (fun(k:Nat)=>[]) (fun(k:Nat)=>[]) (fun(k:Nat)=>k<=l.length/\(l.take k).all (fun x=>!decide (x=s))=true) (fun(k:Nat)=>l.length-k) (0) (by simp) [] ?_ ?_
 ·exact cV
 intro k hk
 refine Ws<|zu4 ?_
 refine Wi rfl (fun hi1=>?_) (fun hi1=>?_)
 ·have hlt:k<l.length:=by have:=oT hi1;omega
  refine Wj<|Ws<|Wl<|zp2 ?_
  refine Wv tG rfl rfl rfl (by omega) (iN fa 1 (fun _=>rfl) [] (by omega)) ?_
  refine zy3 ?_
  refine zq 17 ?_
  refine Wn<|Wi rfl (fun hi2=>?_) (fun hi2=>?_)
  ·have hy:inS l s=true:=by unfold inS;rw[List.any_eq_true];exact⟨_,So [] hlt,hi2⟩
   refine zu1 ?_
   refine zR ?_
   rw[hy];rfl
  refine Wj<|aa rfl ?_
  refine zs3 ?_
  exact⟨k+1,[],(by exact⟨by omega,Ts [] hlt hk.2 (by rw[hi2];rfl)⟩),(by omega),cV⟩
 have hge:l.length<=k:=by have:=oF hi1;omega
 have hn:inS l s=false:=by have h1:=hk.2;rw[lj _ k hge]at h1;unfold inS;rw[List.any_eq_false];intro x hx;have:=List.all_eq_true.1 h1 x hx;simpa using this
 refine aU ?_
 refine zu1 ?_
 refine zR ?_
 rw[hn];rfl
def ur(name:Str)(i:Nat):Int:=if i<12 then 6 else if inS Ye name then 4 else if inS ax2 name then 1 else if inS Yl name then 5 else 0
def BO(name:Str)(i:Nat):af prog 49 [str name,i64 i] (i64 (ur name i)):=by
 refine zY func49 fun B=>?_
 refine zu1 ?_
 refine Ws<|zu2 ?_
 refine Wi rfl (fun hi1=>?_) (fun hi1=>?_)
 ·have h0:i<12:=by have:=oT hi1;omega
  refine zu1 ?_
  refine zR ?_
  rw[ur,if_pos h0];rfl
 have h0:¬i<12:=by have:=oF hi1;omega
 refine Wj<|zp1 ?_
 refine Wa 10 rfl (bsL fa [_,_,_,_,_,_,_,_] rfl rfl) ?_
 refine z1 ?_
 refine zc rfl func88 ((Jl Ye name (by decide)) _) ?_
 refine zs1 ?_
 refine Ws<|zu1 ?_
 refine Wi rfl (fun hi2=>?_) (fun hi2=>?_)
 ·refine zu1 ?_
  refine zR ?_
  rw[ur,if_neg h0,if_pos hi2];rfl
 refine Wj<|zp1 ?_
 refine Wa 14 rfl (bsL fa [_,_,_,_] rfl rfl) ?_
 refine z1 ?_
 refine zc rfl func88 ((Jl ax2 name (by decide)) _) ?_
 refine zs1 ?_
 refine Ws<|zu1 ?_
 refine Wi rfl (fun hi3=>?_) (fun hi3=>?_)
 ·refine zu1 ?_
  refine zR ?_
  rw[ur,if_neg h0,if_neg (by rw[hi2];simp),if_pos hi3];rfl
 refine Wj<|zp1 ?_
 refine Wa 18 rfl (bsL fa [_,_,_,_,_,_,_,_,_,_,_,_,_,_,_,_,_,_,_,_,_,_] rfl rfl) ?_
 refine z1 ?_
 refine zc rfl func88 ((Jl Yl name (by decide)) _) ?_
 refine zs1 ?_
 refine Ws<|zu1 ?_
 refine Wi rfl (fun hi4=>?_) (fun hi4=>?_)
 ·refine zu1 ?_
  refine zR ?_
  rw[ur,if_neg h0,if_neg (by rw[hi2];simp),if_neg (by rw[hi3];simp),if_pos hi4];rfl
 refine Wj<|zu1 ?_
 refine zR ?_
 rw[ur,if_neg h0,if_neg (by rw[hi2];simp),if_neg (by rw[hi3];simp),if_neg (by rw[hi4];simp)];rfl
def Ij:af prog 47 [] (sqc fa aq):=by
 refine bv tG (rs:=[.tmp 0]) func47 rfl rfl rfl (by simp;done) (by exact kQ CU _) (fun B=>?_)
 refine zu1 ?_
 refine zp1 ?_
 refine Wa 1 rfl (bsL fa [_,_,_,_,_,_,_,_,_,_,_,_,_,_,_,_,_,_,_,_,_,_,_,_,_,_,_,_,_,_,_,_,_,_,_,_,_,_,_,_,_,_,_,_,_,_,_,_,_,_,_,_,_,_,_,_,_,_,_,_,_,_,_,_,_,_,_,_,_,_,_,_,_,_,_,_,_,_,_,_,_,_,_,_,_,_,_,_,_,_,_,_,_,_,_,_,_,_,_,_,_,_,_,_,_,_,_,_,_,_,_,_,_,_,_,_,_,_,_,_,_,_,_,_,_,_,_,_,_,_] rfl rfl) ?_
 refine zs1 ?_
 refine Wq ?_
 exact nE rfl rfl
def gj:List Str:=aq++bG
def Qs:gj.length=167:=by unfold gj;rw[List.length_append,lf,ij]
def kf(i:Nat):Nat:=if 130<=i then 170+i else i
def xF(b:List UInt8)(a n:Nat):List UInt8:=(b.set a (UInt8.ofNat (n%256))).set (a+1) (UInt8.ofNat (n/256))
def Gl(b:List UInt8)(i:Nat):List UInt8 :=
 let b1:=xF b (32+8*i) (kf i)
 let b2:=if gj.getD i []=[40,104,97,108,116,41]then xF b1 16 (32+8*i)else b1
 if gj.getD i []=[40,99,97,117,103,104,116,41]then xF b2 24 (32+8*i)else b2
def o9(M:Nat):Nat->List UInt8
 | 0=>(List.replicate M 0).set 0 10
 | k+1=>Gl (o9 M k) k
def gF(i:Nat):aL:=⟨gj.getD i [],((32+8*i:Nat):Int),ur (gj.getD i []) i⟩
def du(k:Nat):List aL:=(List.range k).map gF
@[simp] theorem l9 (k : Nat) : (du k).length = k := by simp [du]
def OA(k:Nat):du (k+1)=du k++[gF k]:=by unfold du;rw[List.range_succ,List.map_append];rfl
def TU(b:List UInt8)(a n:Nat):(xF b a n).length=b.length:=by simp[xF]
def MG(b:List UInt8)(i:Nat):(Gl b i).length=b.length:=by
 unfold Gl
 simp only
 split<;>split<;>simp[TU]
def uU(M k:Nat):(o9 M k).length=M:=by
 induction k with
 | zero=>simp[o9]
 | succ k ih=>rw[o9,MG,ih]
def Ga(c:nj):VVm:={conf:=c,mem:=⟨o9 c.mem.toNat 167,[]⟩,here:=1368,d:=[],r:=[],f:=[],dict:=du 167,last:=0,out:=[],pic:=⟨[],false⟩,req:=[],free:=0,next:=0,arg:=0,self:=0,now:=0,hand:=[]}
def vmZ:List PV:=[i64 0,i64 0,i64 0,i64 0,i64 0,.seq 0 [] .clip,.seq 0 [] .clip,i64 0,.seq 0 [] .clip,.seq 0 [] .clip,.seq 0 [] .clip,.seq 0 [] .clip,i64 0,.seq 0 [] .clip,.seq 0 [] .clip,boo false,.seq 0 [] .clip,i64 0,i64 0,i64 0,i64 0,i64 0,.seq 0 [] .clip]
@[simp] theorem aA3 {n : Nat} : qe n vmZ := m4 (by simp [vmZ])
def Yq(n:Nat)(h:n<256):((UInt8.ofNat n).toNat:Int)=n:=by rw[UInt8.toNat_ofNat'];omega
def rz(n:Nat):PV.val (Value.int .u8 (IntKind.u8.wrap ((n:Int).tmod 256)))=.val (.int .u8 ((UInt8.ofNat (n%256)).toNat:Int)):=by
 rw[Yq _ (by omega),Int.tmod_eq_emod_of_nonneg (by omega)]
 simp only[PV.val.injEq,Value.int.injEq,true_and]
 rw[IntKind.wrap_u8];omega
def r9(n:Nat)(h:n<65536):PV.val (Value.int .u8 (IntKind.u8.wrap (IntKind.i64.wrap ((n:Int).tdiv 256))))=.val (.int .u8 ((UInt8.ofNat (n/256)).toNat:Int)):=by
 rw[Yq _ (by omega),Int.tdiv_eq_ediv_of_nonneg (by omega)]
 simp only[PV.val.injEq,Value.int.injEq,true_and]
 rw[bB,IntKind.wrap_u8];unfold wrap64;omega
def dB{b:List UInt8}{i:Int}{n:Nat}{x:UInt8}(hi:i=n)(hn:n<b.length):cr (b.flatMap ar) (0+i.toNat*1) [.val (.int .u8 (x.toNat:Int))]=(b.set n x).flatMap ar:=by
 subst hi
 rw[Int.toNat_natCast,Nat.mul_one,Nat.zero_add]
 exact rR hn x
def Xs{M:Nat}{d:TD}{e:TypeId}(hd:d.zero=ar 0):Ob.cells (fg M d) e=.cells ((List.replicate M (0:UInt8)).flatMap ar) e:=by
 unfold fg
 rw[hd,List.flatMap_replicate]
def sC:nj:=⟨2048,32,32,200,500⟩
def ab2(d:List Int):VVm:={Ga sC with d:=d}
def VC{w:World}{cs:List Value}(h:Rd w 5 cs):∃b:UInt8,True/\ay (c0 w) (ar b) cs:=by
 obtain⟨n,h1,h2⟩:=ID underlying5 h
 have h3:=XK h1
 refine⟨UInt8.ofNat n.toNat,trivial,?_⟩
 have e:((UInt8.ofNat n.toNat).toNat:Int)=n:=by rw[UInt8.toNat_ofNat'];omega
 unfold ar
 rw[e];exact h2
def Qe{w:World}{cs:List Value}(h:Rd w 22 cs):∃l:List UInt8,l.length<=9223372036854775807/\ay (c0 w) [sq ar l] cs:=by
 obtain⟨l,_,h2,h3⟩:=DD ar (fun _=>True) 1 underlying22 (by kernel_rfl) (by omega) (fun es h=>VC h) h
 exact⟨l,by unfold maxLen at h2;omega,h3⟩
structure bb (N:Nat) (v:VVm):Prop where
 right:yy v
 old:v.mem.old.length<=N
 fd:ew v.d
 fr:ew v.r
 ff:∀x∈v.f,ab x.ip
 ints:ab v.arg/\ab v.self/\ab v.now
 la:ab v.last
structure gh (N:Nat) (r:bD):Prop where
 m:bb N r.vm
 ip:ab r.ip
 w:ab r.w
def bb.v{N:Nat}{v:VVm}(g:bb N v):uX N v:=⟨(lB v).2 g.right,g.old,g.fd,g.ints⟩
def bb.up{N M:Nat}{v:VVm}(g:bb N v)(h:N<=M):bb M v:=⟨g.right,by have:=g.old;omega,g.fd,g.fr,g.ff,g.ints,g.la⟩
def gh.up{N M:Nat}{r:bD}(g:gh N r)(h:N<=M):gh M r:=⟨g.m.up h,g.ip,g.w⟩
def bb.x{N:Nat}{v:VVm}(g:bb N v):VX N v:=by
 have R:=g.right
 have hc:=R.fV
 unfold dW at hc
 have h1:=R.len
 have h2:=R.d
 have h3:=R.r
 have h4:=R.fl
 exact⟨by omega,g.old,by omega,by omega,by omega,g.fd,g.fr,g.ff,by omega,by omega,g.la⟩
section
variable {N : Nat} {v : VVm}
def Sv(g:bb N v){d:List Int}(hd:(d.length:Int)<=v.conf.data)(hf:ew d):bb N {v with d:=d}:=by
 have R:=g.right
 exact⟨⟨R.fV,R.mem,R.dict,R.pic,R.len,R.ju,R.jx,R.f,R.hand,hd,R.r,R.fl,R.dl,R.out,R.req,R.free0,R.free1,R.next0,R.next1,R.handl⟩,g.old,hf,g.fr,g.ff,g.ints,g.la⟩
def Qx(g:bb N v){r:List Int}(hd:(r.length:Int)<=v.conf.ret)(hf:ew r):bb N {v with r:=r}:=by
 have R:=g.right
 exact⟨⟨R.fV,R.mem,R.dict,R.pic,R.len,R.ju,R.jx,R.f,R.hand,R.d,hd,R.fl,R.dl,R.out,R.req,R.free0,R.free1,R.next0,R.next1,R.handl⟩,g.old,g.fd,hf,g.ff,g.ints,g.la⟩
def QX(g:bb N v){f:List ja}(h1:f.all pT=true)(h2:f.length<=64)(h3:∀x∈f,ab x.ip):bb N {v with f:=f}:=by
 have R:=g.right
 exact⟨⟨R.fV,R.mem,R.dict,R.pic,R.len,R.ju,R.jx,h1,R.hand,R.d,R.r,h2,R.dl,R.out,R.req,R.free0,R.free1,R.next0,R.next1,R.handl⟩,g.old,g.fd,g.fr,h3,g.ints,g.la⟩
def P2(g:bb N v){m:bf}(k:dy v.mem m 1):bb (N+1) (r6 v m):=by
 have R:=g.right
 refine⟨⟨R.fV,k.right R.mem,R.dict,R.pic,?_,R.ju,R.jx,R.f,R.hand,R.d,R.r,R.fl,R.dl,R.out,R.req,R.free0,R.free1,R.next0,R.next1,R.handl⟩,?_,g.fd,g.fr,g.ff,g.ints,g.la⟩
 ·show(m.b.length:Int)=v.conf.mem;rw[k.len];exact R.len
 show m.old.length<=N+1;have:=k.old;have:=g.old;omega
end
def KG(N:Nat)(k:PW):Prop:=match k.err with
 | .ok=>gh N k.r
 | .bad e=>ab e
 | .halt=>False
def KF2(N:Nat)(k:PW):Prop:=match k.err with
 | .bad e=>ab e
 | _=>gh N k.r
section
variable {N : Nat} {k : PW}
def KG.ok(g:KG N k)(h:k.err=.ok):gh N k.r:=by unfold KG at g;rw[h]at g;exact g
def X7(h:k.err=.ok)(g:gh N k.r):KG N k:=by unfold KG;rw[h];exact g
def C4{M:Nat}(g:KG N k)(h:N<=M):KG M k:=by
 unfold KG at g ⊢
 cases q:k.err with
 | ok=>rw[q]at g;exact g.up h
 | bad c=>rw[q]at g;exact g
 | halt=>rw[q]at g;exact g.elim
def xo(g:KG N k){v:VVm}{e:Int}{M:Nat}(hM:N<=M)(he:ab e)(hv:k.err=.ok->e=0->bb M v):KG M (pOk k v e):=by
 unfold pOk
 cases q:k.err with
 | ok =>
  dsimp only
  by_cases h:e=0
  ·rw[if_pos h];exact X7 rfl ⟨hv q h,(g.ok q).ip,(g.ok q).w⟩
  rw[if_neg h];exact he
 | bad c=>exact C4 g hM
 | halt=>exact C4 g hM
def nK(n:Nat)(h:n<=300):ab (-(n:Int)):=by unfold ab;omega
def jl(g:KG N k){n:Int}(hn:k.err=.ok->ab n):KG N (db k n):=by
 refine xo g (Nat.le_refl _) ?_ (fun q h0=>?_)
 ·unfold gD gn;split;exact nK 3 (by omega);exact bt
 have m:=(g.ok q).m
 have h:=h0
 unfold gD gn at h ⊢
 by_cases c:k.r.vm.conf.data<=(k.r.vm.d.length:Int)
 ·rw[if_pos c]at h;cases h
 rw[if_neg c];exact Sv m (by simp only[List.length_append,List.length_singleton];omega) (i9 m.fd (cU (hn q)))
def pk(g:KG N k){n:Int}(hn:k.err=.ok->ab n):KG N (iZ k n):=by
 refine xo g (Nat.le_refl _) ?_ (fun q h0=>?_)
 ·unfold ga;split;exact nK 5 (by omega);exact bt
 have m:=(g.ok q).m
 have h:=h0
 unfold ga at h ⊢
 by_cases c:k.r.vm.conf.ret<=(k.r.vm.r.length:Int)
 ·rw[if_pos c]at h;cases h
 rw[if_neg c];exact Qx m (by simp only[List.length_append,List.length_singleton];omega) (i9 m.fr (cU (hn q)))
def jA(g:KG N k):KG N (aY k).1/\ab (aY k).2:=by
 refine⟨xo g (Nat.le_refl _) ?_ (fun q h0=>?_),?_⟩
 ·unfold dO bk;split;exact nK 4 (by omega);exact bt
 ·have m:=(g.ok q).m
  unfold dO bk
  split
  ·exact m
  exact Sv m (by have:=m.right.d;simp only[List.length_take];omega) (m6 _ m.fd)
 unfold aY;dsimp only;split
 ·rename_i q
  exact(Ej ((g.ok (gU (gS.1 q)).1).m.x)).2
 exact bt
def iU(g:KG N k):KG N (fT k).1/\ab (fT k).2:=by
 refine⟨xo g (Nat.le_refl _) ?_ (fun q h0=>?_),?_⟩
 ·unfold eS;split;exact nK 6 (by omega);exact bt
 ·have m:=(g.ok q).m
  unfold eS
  split
  ·exact m
  exact Qx m (by have:=m.right.r;simp only[List.length_take];omega) (m6 _ m.fr)
 unfold fT;dsimp only;split
 ·rename_i q
  exact(Dr ((g.ok (gU (gS.1 q)).1).m.x)).2
 exact bt
def tC(m:bf)(a:Int):ab (cP m a):=by
 unfold cP;split
 ·split;exact bt;exact nK 23 (by omega)
 exact nK 9 (by omega)
def iy(g:KG N k)(a:Int):KG N (bq k a).1/\ab (bq k a).2:=by
 refine⟨xo g (Nat.le_refl _) ?_ (fun q _=>(g.ok q).m),Gg _ _⟩
 unfold an;split;exact bt;exact tC _ _
def GY(g:KG N k)(a n:Int):KG (N+1) (mi k a n):=by
 refine xo g (by omega) ?_ (fun q _=>P2 (g.ok q).m (cM _ _ _))
 unfold aH bV;split
 ·split
  ·split<;>exact bt
  exact nK 9 (by omega)
 exact tC _ _
def mH(g:KG N k){e:Int}(he:ab e):KG N (pOk k k.r.vm e):=xo g (Nat.le_refl _) he (fun q _=>(g.ok q).m)
def uZ(g:KG N k){a:Int}(ha:k.err=.ok->ab a):KG N (wIp k a):=by
 unfold KG at g ⊢
 unfold wIp;dsimp only
 cases q:k.err with
 | ok=>rw[q]at g;exact⟨g.m,ha q,g.w⟩
 | bad c=>rw[q]at g;exact g
 | halt=>rw[q]at g;exact g.elim
def Eh(g:KG N k){a:Int}(ha:k.err=.ok->ab a):KG N (uP k a):=by
 unfold KG at g ⊢
 unfold uP;dsimp only
 cases q:k.err with
 | ok=>rw[q]at g;exact⟨g.m,g.ip,ha q⟩
 | bad c=>rw[q]at g;exact g
 | halt=>rw[q]at g;exact g.elim
def Dw(g:KG N k)(n:Nat):KG N (cn k n).1/\(k.err=.ok->ab (cn k n).2):=by
 unfold cn;split
 ·exact⟨mH g (nK 6 (by omega)),fun _=>bt⟩
 exact⟨g,fun q=>uJ (g.ok q).m.fr _⟩
def Gb(g:KG N k):KF2 N k:=by
 unfold KG at g;unfold KF2
 cases q:k.err with
 | ok=>rw[q]at g;exact g
 | bad c=>rw[q]at g;exact g
 | halt=>rw[q]at g;exact g.elim
def rP{c:Prop}[Decidable c]{a b:PW}(h1:KG N a)(h2:KG N b):KG N (if c then a else b):=by split<;>assumption
def dJ{c:Prop}[Decidable c]{a b:PW}(h1:KF2 N a)(h2:KF2 N b):KF2 N (if c then a else b):=by split<;>assumption
def yg(g:KG N k)(b:Bool):KG N (kE k b):=by
 unfold kE
 exact rP (uZ (iy g _).1 (fun _=>(iy g _).2)) (uZ g (fun _=>cR _))
def LJ(g:KG N k):KG N (sa k):=uZ (iU g).1 (fun _=>(iU g).2)
def Zb(g:KG N k):KG N (NN k):=uZ (jl (iy g _).1 (fun _=>(iy g _).2)) (fun _=>cR _)
def I6(g:KG N k):KG N (Ad k):=pk (pk (jA (jA g).1).1 (fun _=>(jA (jA g).1).2)) (fun _=>(jA g).2)
def XV(g:KG N k):KG N (r7 k):=jl (jl (iU (iU g).1).1 (fun _=>(iU (iU g).1).2)) (fun _=>(iU g).2)
def YO(g:KG N k):KG N (zm k):=by
 have a:=jA g
 have b:=jA a.1
 unfold zm
 exact rP (yg b.1 _) (I6 (uZ (jl (jl b.1 (fun _=>b.2)) (fun _=>a.2)) (fun _=>cR _)))
def KA(g:KG N k)(n:Int):KG N (oS k n):=by
 have a:=Dw g 1
 have b:=Dw a.1 0
 unfold oS
 exact rP (yg (rP (iU (iU b.1).1).1 (pk (iU b.1).1 (fun _=>Fg _ _ _))) _) b.1
def UL(g:KG N k):KG (N+2) (sa (mb k)):=by
 unfold mb
 exact LJ (rP (C4 (mH g (nK 31 (by omega))) (by omega)) (GY (GY g _ _) _ _))
def Ms(g:KG N k):KG N (kD k):=by
 unfold kD
 split
 ·exact mH g (nK 6 (by omega))
 rename_i h0
 refine jl ?_ (fun _=>bt)
 unfold KG at g ⊢
 dsimp only
 cases q:k.err with
 | ok =>
  rw[q]at g
  refine⟨QX g.m ?_ (by have:=g.m.right.fl;simp only[List.length_take];omega) (fun x hx=>g.m.ff x (List.mem_of_mem_take hx)),?_,g.w⟩
  ·exact List.all_eq_true.2 fun x hx=>List.all_eq_true.1 g.m.right.f x (List.mem_of_mem_take hx)
  exact g.m.ff _ (by rw[List.getD_eq_getElem?_getD,List.getElem?_eq_getElem (by omega)];exact List.getElem_mem _)
 | bad c=>rw[q]at g;exact g
 | halt=>rw[q]at g;exact g.elim
def ai1{a:Int}(h:ab a):ab (vr [65,76,73,71,78,69,68] a).1:=by
 show ab (if a%8=0 then a else wrap64 (a-a%8+8))
 split
 ·exact h
 exact ic _
def ai0(g:KG N k):KG N (Ir k):=by
 have f:=iy g k.r.ip
 unfold Ir
 refine uZ (jl (jl (mH f.1 ?_) (fun _=>cR _)) (fun _=>f.2)) (fun _=>ai1 (cR _))
 unfold cv;split;exact bt;exact nK 9 (by omega)
def Qu(g:KG N k):KG N (nX k):=by
 have a:=jA g
 unfold nX wFr
 refine Eh ?_ (fun _=>a.2)
 split
 ·rename_i h0
  have b:=mH a.1 (e:=-5) (nK 5 (by omega))
  have hb:(pOk (aY k).1 (aY k).1.r.vm (-5)).err≠.ok:=fun q=>by have:=(gU q).2;omega
  unfold KG at b ⊢
  dsimp only
  cases q:(pOk (aY k).1 (aY k).1.r.vm (-5)).err with
  | ok=>exact absurd q hb
  | bad c=>rw[q]at b;exact b
  | halt=>rw[q]at b;exact b.elim
 rename_i h0
 have b:=a.1
 unfold KG at b ⊢
 dsimp only
 cases q:(aY k).1.err with
 | ok =>
  rw[q]at b
  have R:=b.m.right
  have hc:=R.fV
  unfold dW at hc
  have h1:=R.d
  have h2:=R.r
  refine⟨QX b.m ?_ (by simp only[List.length_append,List.length_singleton];omega) (fun x hx=>?_),(by unfold ab;dsimp only;omega),b.w⟩
  ·rw[List.all_append,R.f]
   simp only[List.all_cons,List.all_nil,Bool.and_true,Bool.true_and]
   unfold pT
   simp only[decide_eq_true_eq,Bool.and_eq_true]
   omega
  rcases List.mem_append.1 hx with hx|hx
  ·exact b.m.ff x hx
  simp only[List.mem_singleton]at hx;subst hx;exact b.ip
 | bad c=>rw[q]at b;exact b
 | halt=>rw[q]at b;exact b.elim
def Il(g:KG N k)(b:Int):KG N (eW k b):=by
 have x:=iy g b
 have y:=iy x.1 (W64 (b+8))
 unfold eW
 dsimp only
 have z:=fun(c:Bool)=>iy (rP (c:=c=true) (mH y.1 (e:=-24) (nK 24 (by omega))) y.1) (W64 (W64 (b+16)+W64 (8*(bq k b).2)))
 exact rP (z _).1 (Eh (z _).1 (fun _=>(z _).2))
def T6(g:KG N k):KG N (pOk (aY k).1 (aY k).1.r.vm (aY k).2):=mH (jA g).1 (jA g).2
def Iw(g:KG N k)(h0:k.err=.ok)(name:Str):KF2 (N+2) (lX k name):=by
 have u:=fun {a:PW} (q:KG N a)=>Gb (C4 q (by omega:N<=N+2))
 unfold lX Gj
 refine dJ (Gb (UL g)) (dJ (u (LJ g)) (dJ (u (Zb g)) (dJ (u (yg g _)) (dJ (u (yg (jA g).1 _)) (dJ (u (YO g)) (dJ (u (I6 g)) (dJ (u (KA g 1)) (dJ (u (KA (jA g).1 _)) (dJ ?_ ?_)))))))))
 ·have b:=(g.ok h0).up (by omega:N<=N+2);exact⟨b.m,b.ip,b.w⟩
 refine dJ (u (Ms g)) (dJ (u (ai0 g)) (dJ (u (Eh (jA g).1 (fun _=>(jA g).2))) (dJ (u (Qu g)) (dJ (u (T6 g)) ?_))))
 have d:=fun n=>Dw g n
 have dp:=fun n=>u (jl (d n).1 (fun q=>(d n).2 (xW q)))
 exact dJ (dp 0) (dJ (dp 2) (dJ (u (iU (iU (d 1).1).1).1) (dJ (u (pk (jA g).1 (fun _=>(jA g).2))) (dJ (u (jl (iU g).1 (fun _=>(iU g).2))) (dJ (dp 0) (dJ (u (I6 g)) (dJ (u (XV g)) (u g))))))))
end
def NX{v:VVm}{n:Int}{N:Nat}(g:bb N v):bb (N+2) (doS v n).1:=by
 have q:=PI (n:=n) g.v
 have s:=Ho (n:=n) g.v
 unfold CF at s
 have e1:(doS v n).1.r=v.r:=by have q:=congrArg VVm.r s;exact q
 have e2:(doS v n).1.f=v.f:=by have q:=congrArg VVm.f s;exact q
 have e3:(doS v n).1.last=v.last:=by have q:=congrArg VVm.last s;exact q
 exact⟨(lB _).1 q.right,q.old,q.d,by rw[e1];exact g.fr,by rw[e2];exact g.ff,q.ints,by rw[e3];exact g.la⟩
def WJ{k:PW}{N:Nat}(g:KG N k)(h0:k.err=.ok){xt:Int}(hx:ab xt):KF2 (N+2) (jY k xt):=by
 have u:=fun {a:PW} (q:KG N a)=>Gb (C4 q (by omega:N<=N+2))
 have fk:ab (az k.r.vm xt).2:=by
  unfold az;split
  ·split;exact bt;exact nK 9 (by omega)
  unfold an;split;exact bt;exact tC _ _
 have g1:=mH g fk
 unfold jY
 dsimp only
 by_cases c:ia (pOk k k.r.vm (az k.r.vm xt).2).err=true
 ·rw[if_pos c]
  have o1:=gS.1 c
  have gr:=g1.ok o1
  refine dJ (u (mH g1 (nK 14 (by omega)))) (dJ (u (uZ (pk g1 (fun q=>gr.ip)) (fun _=>cR _))) (dJ (u (jl g1 (fun _=>cR _))) (dJ (u (jl (iy g1 _).1 (fun _=>(iy g1 _).2))) (dJ ?_ (dJ (u (Il g1 _)) (dJ ?_ (Iw g1 o1 _)))))))
  ·have f:=iy g1 (W64 (xt+8))
   have p:=jl f.1 (n:=W64 (xt+16)) (fun _=>cR _)
   exact u (uZ (pk p (fun q=>(p.ok q).ip)) (fun _=>f.2))
  exact Gb (xo g1 (by omega) (af5 (an7 _ _)) (fun q _=>NX gr.m))
 rw[if_neg c];exact u g1
def Us{r:bD}{N:Nat}(g:gh N r):KG N (cb r).1/\ab (cb r).2:=by
 have b:KG N (fW r):=X7 rfl ⟨g.m,g.ip,bt⟩
 have f:=iy b r.ip
 unfold cb
 split
 ·exact⟨b,g.w⟩
 exact⟨rP (uZ f.1 (fun _=>cR _)) f.1,f.2⟩
def ly(s:List Int)(n:Nat):(ko s n).length=n:=by unfold ko;simp only[List.length_append,List.length_take,List.length_replicate];omega
def CQ{s:List Int}(h:ew s)(n:Nat):ew (ko s n):=i9 (m6 _ h) (fun x hx=>by rw[List.eq_of_mem_replicate hx];exact bt)
def wW{r:bD}{N:Nat}(g:gh N r){e:Int}(he:ab e):gh N (cp r e).1:=by
 unfold cp
 split
 ·exact g
 rename_i h0
 dsimp only
 have R:=g.m.right
 have hc:=R.fV
 unfold dW at hc
 have hm:r.vm.f.getD (r.vm.f.length-1) default∈r.vm.f:=by rw[List.getD_eq_getElem?_getD,List.getElem?_eq_getElem (by omega)];exact List.getElem_mem _
 have hf:=List.all_eq_true.1 R.f _ hm
 unfold pT at hf
 simp only[decide_eq_true_eq,Bool.and_eq_true]at hf
 generalize r.vm.f.getD (r.vm.f.length-1) default=F at *
 have a1:=QX g.m (f:=r.vm.f.take (r.vm.f.length-1)) (List.all_eq_true.2 fun x hx=>List.all_eq_true.1 R.f x (List.mem_of_mem_take hx)) (by have:=R.fl;simp only[List.length_take];omega) (fun x hx=>g.m.ff x (List.mem_of_mem_take hx))
 have a2:=Sv a1 (d:=ko r.vm.d (min F.d (r.vm.conf.data-1)).toNat++[e]) (by show _<=r.vm.conf.data;simp only[List.length_append,List.length_singleton,ly];omega) (i9 (CQ g.m.fd _) (cU he))
 have a3:=Qx a2 (r:=ko r.vm.r (min F.r r.vm.conf.ret).toNat) (by show _<=r.vm.conf.ret;rw[ly];omega) (CQ g.m.fr _)
 exact⟨a3,g.m.ff F hm,g.w⟩
def M0{r:bD}{N:Nat}(g:gh N r):gh (N+2) (r3 r).1:=by
 unfold r3
 split
 ·exact g.up (by omega)
 have t:=Us g
 have tr:=(uY r).2
 have tg:KF2 (N+2) (ik r):=by
  unfold ik
  by_cases c:ia (cb r).1.err=true
  ·rw[if_pos c];exact WJ t.1 (gS.1 c) t.2
  rw[if_neg c];exact Gb (C4 t.1 (by omega))
 have wg:gh N (cb r).1.r:=by
  rw[tr]
  refine⟨g.m,?_,bt⟩
  have e:(xi r).1.ip=(cb r).1.r.ip:=by rw[tr]
  rw[e]
  unfold cb
  split
  ·exact g.ip
  dsimp only
  split
  ·exact cR _
  rw[ye];exact g.ip
 unfold KF2 at tg
 cases q:(ik r).err with
 | ok=>rw[q]at tg;exact tg
 | halt=>rw[q]at tg;exact tg
 | bad c=>rw[q]at tg;exact(wW wg tg).up (by omega)
open Go.RowKit
def Jf:xH->Bool
 | .halt=>true
 | _=>false
def H8{c:Cx}{t:TypeId}{x z:Value}{y:PV}{v:Value}(h:Rep c (.ifc t (.agg [.val x,y])) v)(hy:∀u,Rep c y u->u=z):v=.iface t (.agg #[x,z]):=by
 unfold Rep at h
 obtain⟨u,rfl,h⟩:=h
 unfold Rep at h
 obtain⟨vs,rfl,h⟩:=h
 match vs,h with
 | [],h=>have:=ay.length h;simp at this
 | [_],h=>have:=ay.length h;simp at this
 | [p,q],h =>
  have h1:=(ai.1 h).1
  have h2:=hy _ (ai.1 (ai.1 h).2).1
  unfold Rep at h1
  rw[h1,h2]
 | _::_::_::_,h=>have:=ay.length h;simp at this
def x9{c:Cx}{t:TypeId}{x v:Value}(h:Rep c (.ifc t (.agg [.val x])) v):v=.iface t (.agg #[x]):=by
 unfold Rep at h
 obtain⟨u,rfl,h⟩:=h
 unfold Rep at h
 obtain⟨vs,rfl,h⟩:=h
 match vs,h with
 | [],h=>have:=ay.length h;simp at this
 | [p],h =>
  have h1:=(ai.1 h).1
  unfold Rep at h1
  rw[h1]
 | _::_::_,h=>have:=ay.length h;simp at this
def uH{c:Cx}{x y:PV}{vs:List Value}{a b:Value}(h:ay c [x,y] vs)(hx:∀u,Rep c x u->u=a)(hy:∀u,Rep c y u->u=b):vs=[a,b]:=by
 match vs,h with
 | [],h=>have:=ay.length h;simp at this
 | [_],h=>have:=ay.length h;simp at this
 | [p,q],h=>rw[hx _ (ai.1 h).1,hy _ (ai.1 (ai.1 h).2).1]
 | _::_::_::_,h=>have:=ay.length h;simp at this
def AH{c:Cx}{x v:Value}(h:Rep c (.val x) v):v=x:=by unfold Rep at h;exact h
def aC9(a:Addr)(xt:Int)(e:xH)(he:ia e=false):af prog 118 [.ifc 199 (.agg [i64 xt,Bo a e]),.val (haltV a)] (boo (Jf e)):=by
 cases e with
 | ok=>cases he
 | bad k=>exact rJ (l:=[atV xt (VD k),haltV a]) (v:=.bool false) (fun c vs h=>uH h (fun u hu=>H8 hu (fun _ hq=>x9 hq)) (fun u hu=>AH hu)) (fun c=>av _ _) (Zp a xt k)
 | halt=>exact rJ (l:=[atV xt (haltV a),haltV a]) (v:=.bool true) (fun c vs h=>uH h (fun u hu=>H8 hu (fun _ hq=>AH hq)) (fun u hu=>AH hu)) (fun c=>av _ _) (ag9 a xt)
def aA0(xt k:Int){x0:PV}(H:List Ob)(i j:Nat)(hi:H[i]?=some (.cells [x0] 201))(hj:H[j]?=some (.glob 0 etV)):
  HC prog 83 [.ifc 199 (.agg [i64 xt,.ifc 201 (.agg [i64 k])]),.ifc 203 (.ptr i 0)] H (boo true) (H.set i (.cells [i64 k] 201)):=by
 intro B σ w vs s hv
 obtain⟨b,vs0,fr,hb,hw,hfr,p,q,rfl,hp⟩:=s.holds i _ hi
 simp only[cx]at hb hw
 match p,hp with
 | [],hp=>have:=ay.length hp;simp at this
 | _::_::_,hp=>have:=ay.length hp;simp at this
 | [old],hp =>
 have hvs:vs=[atV xt (VD k),.iface 203 (.pointer (some ⟨b,0,none⟩))]:=uH hv (fun u hu=>H8 hu (fun _ hq=>x9 hq)) (fun u hu=>by
  unfold Rep at hu
  obtain⟨z,rfl,hz⟩:=hu
  unfold Rep at hz
  obtain⟨_,b2,h2,rfl⟩:=hz
  simp only[cx]at h2
  rw[hb]at h2;cases h2;rfl)
 subst hvs
 obtain⟨hg,_⟩:=s.holds j _ hj
 have ht0:w.cell? ⟨b,0,none⟩=some old:=by rw[d9 hw];rfl
 have hf0:w.frozen? ⟨b,0,none⟩=false:=by
  rcases hfr with rfl|hz
  ·simp[World.frozen?,hw]
  obtain⟨lo,hi'⟩:=fr
  simp only[World.frozen?,hw,Bool.and_eq_false_iff,decide_eq_false_iff_not]
  simp only[List.length_append,List.length_cons]at hz
  exact .inl (by omega)
 refine Calls.mono (ac4 xt k ⟨b,0,none⟩ old w hg ht0 hf0) ?_
 rintro e w' ⟨rfl,w1,g,rfl⟩
 obtain⟨s1,st1⟩:=gu s g
 have hw1:w1.heap[b]?=some (Obj.cells (old::q).toArray 201 fr):=(g.block b (Array.getElem?_eq_some_iff.1 hw).1).trans hw
 obtain⟨s2,st2⟩:=lm s1 (ys:=[i64 k]) (us:=.int .i64 k::q) hi hb hw1 hfr rfl ⟨[.int .i64 k],q,rfl,ai.2 ⟨av _ _,aF.2 rfl⟩⟩
 have e1:w1.setCell ⟨b,0,none⟩ (.int .i64 k)=w1.setRow b (Value.int .i64 k::q).toArray:=by
  rw[setCell_eq_setRow w1 b 0 _ _ _ _ hw1];simp
 rw[e1]
 exact⟨.bool true,σ,rfl,av _ _,s2,st1.trans st2⟩
def Jm(n:Nat){d:TD}(hz:d.zero=[i64 0]):fg n d=(List.replicate n (0:Int)).flatMap au:=by
 unfold fg
 rw[hz]
 induction n with
 | zero=>rfl
 | succ n ih=>rw[List.replicate_succ,List.replicate_succ,List.flatten_cons,List.flatMap_cons,ih];rfl
def oa(l:List Int):l.flatMap au=l.map i64:=by
 induction l with
 | nil=>rfl
 | cons x l ih=>rw[List.flatMap_cons,ih];rfl
def xz(s:List Int)(n:Nat){d:TD}(hs:d.size=1)(hz:d.zero=[i64 0]):cr (fg n d) 0 ((s.flatMap au).take (min s.length n*d.size))=(ko s n).flatMap au:=by
 rw[Jm n hz,oa,oa,oa,hs,Nat.mul_one]
 unfold cr ko
 rw[List.take_zero,List.nil_append,Nat.zero_add,<-List.map_take,List.length_map,List.length_take,<-List.map_drop,List.map_append,List.drop_replicate]
 congr 2
 ·rcases Nat.le_total s.length n with h|h
  ·rw[Nat.min_eq_left h,List.take_of_length_le (Nat.le_refl _),List.take_of_length_le h]
  rw[Nat.min_eq_right h]
 congr 1;omega
def L8(s:List Int)(n:Nat):PV.seq n (((ko s n).flatMap au).take n) .clip=sqc au (ko s n):=by
 have h:=ly s n
 rw[oa,<-List.map_take,List.take_of_length_le (by omega),<-oa]
 unfold sqc;rw[h]
def rq(s:List Int)(n:Nat)(hs:s.length<=1000000)(hn:n<=1000000):af prog 169 [sq au s,i64 (n:Int)] (sqc au (ko s n)):=by
 refine zY func169 fun B=>?_
 refine zu1 ?_
 refine zp1 ?_
 refine z2 ?_ (q:=(by(simp_all;omega)))
 refine zs1 ?_
 refine zp2 ?_
 refine Wd rfl rfl (mZ (lO tG rfl) rfl (lO tG rfl) rfl rfl rfl rfl (al _ 1 (fun _=>rfl) _) (bi _ (fun _=>rfl) _) (by rw[l7 _ _ rfl];simp)) ?_
 refine iS (H':=[.cells ((ko s n).flatMap au) 3]) (by refine congrArg (fun z=>[Ob.cells z 3]) (xz s n ?_ ?_).symm<;>rfl) ?_
 refine Wn<|zp1 ?_
 refine zV 11 0 n n rfl rfl (by rw[oa,List.length_map,ly];exact Nat.le_refl _) ?_
 refine Wa 11 rfl (L8 s n) ?_
 refine zs1 ?_
 refine Wq ?_
 exact nE rfl rfl
def ya(r:bD)(b:Bool):PV:=gY (wq r) (boo b)
@[simp] theorem UD (r : bD) (b : Bool) : aQ (ya r b) := by simp [ya]
def Ex(r:bD)(e:Int)(N:Nat)(g:bb N r.vm):af prog 119 [wq r,i64 e] (ya (cp r e).1 (decide (r.vm.f.length≠0))):=by
 have R:=g.right
 have hc:=R.fV
 unfold dW at hc
 have hfl:=R.fl
 have hd:=R.d
 have hr:=R.r
 by_cases h0:r.vm.f.length=0
 ·have e1:(cp r e).1=r:=by unfold cp;rw[if_pos h0]
  rw[e1]
  refine zY func119 fun B=>?_
  refine zu3 ?_
  refine zu5 ?_
  refine Ws<|zu2 ?_
  refine Wt rfl (by(try simp only[dnL]at *);omega) ?_
  refine zu3 ?_
  refine zR ?_
  exact congrArg (ya r) (decide_eq_false (fun q=>q h0)).symm
 have hm:r.vm.f.getD (r.vm.f.length-1) default∈r.vm.f:=by rw[List.getD_eq_getElem?_getD,List.getElem?_eq_getElem (by omega)];exact List.getElem_mem _
 have hf:=List.all_eq_true.1 R.f _ hm
 unfold pT at hf
 simp only[decide_eq_true_eq,Bool.and_eq_true]at hf
 have e1:cp r e=({r with vm:={r.vm with f:=r.vm.f.take (r.vm.f.length-1),d:=ko r.vm.d (min (r.vm.f.getD (r.vm.f.length-1) default).d (r.vm.conf.data-1)).toNat++[e],r:=ko r.vm.r (min (r.vm.f.getD (r.vm.f.length-1) default).r r.vm.conf.ret).toNat},ip:=(r.vm.f.getD (r.vm.f.length-1) default).ip},0):=by
  unfold cp;rw[if_neg h0]
 rw[e1]
 have w0:IntKind.i64.wrap ((r.vm.f.length:Int)-1)=((r.vm.f.length-1:Nat):Int):=by((rw[bB];unfold wrap64;(try simp only[dnL]at *);omega))
 have w1:IntKind.i64.wrap (r.vm.conf.data-1)=r.vm.conf.data-1:=by((rw[bB];unfold wrap64;(try simp only[dnL]at *);omega))
 have w2:(if r.vm.conf.data-1<(r.vm.f.getD (r.vm.f.length-1) default).d then r.vm.conf.data-1 else(r.vm.f.getD (r.vm.f.length-1) default).d)=((min (r.vm.f.getD (r.vm.f.length-1) default).d (r.vm.conf.data-1)).toNat:Int):=by split<;>omega
 have w3:(if r.vm.conf.ret<(r.vm.f.getD (r.vm.f.length-1) default).r then r.vm.conf.ret else(r.vm.f.getD (r.vm.f.length-1) default).r)=((min (r.vm.f.getD (r.vm.f.length-1) default).r r.vm.conf.ret).toNat:Int):=by split<;>omega
 have hdl:=ly r.vm.d (min (r.vm.f.getD (r.vm.f.length-1) default).d (r.vm.conf.data-1)).toNat
 refine zY func119 fun B=>?_
 refine zu3 ?_
 refine zu5 ?_
 refine Ws<|zu2 ?_
 refine Wf rfl (by(try simp only[dnL]at *);omega) ?_
 refine Wj<|zp5 ?_
 refine Wa 19 rfl (zI9 w0) ?_
 refine Wv tG rfl rfl rfl (by omega) (iN jc 3 (fun _=>rfl) default (by omega)) ?_
 refine zs3 ?_
 refine zp5 ?_
 refine Wa 26 rfl (zI9 w0) ?_
 refine z2 ?_ (q:=(by(simp_all;done)))
 refine Wa 27 rfl (cF jc 3 (fun _=>rfl) (by omega)) ?_
 refine zs3 ?_
 refine zp5 ?_
 refine zy5 ?_
 refine Wa 39 rfl (zI9 w1) ?_
 refine z1 ?_
 refine Wa 40 rfl (zI9 w2) ?_
 refine zc rfl func169 ((rq r.vm.d (min (r.vm.f.getD (r.vm.f.length-1) default).d (r.vm.conf.data-1)).toNat (by omega) (by omega)) _) ?_
 refine zy2 ?_
 refine Wa 43 rfl (bsL au [_] rfl rfl) ?_
 refine Wd rfl rfl (bK (lO tG rfl) rfl (lO tG rfl) (lO tG rfl) rfl rfl (by exact⟨_,rfl⟩) (by exact⟨rfl,rfl,al _ 1 (fun _=>rfl) _,bi _ (fun _=>rfl) _⟩) (by exact al _ 1 (fun _=>rfl) _) (by((simp_all;omega))) (by((simp_all;omega)))) ?_
 refine Wa 44 rfl (bT au) ?_
 refine zs3 ?_
 refine zp5 ?_
 refine zy5 ?_
 refine Wa 56 rfl (zI9 w3) ?_
 refine zc rfl func169 ((rq r.vm.r (min (r.vm.f.getD (r.vm.f.length-1) default).r r.vm.conf.ret).toNat (by omega) (by omega)) _) ?_
 refine zs3 ?_
 refine zu4 ?_
 refine zu3 ?_
 refine zR ?_
 rw[decide_eq_true h0];rfl
def Li(r:bD×Bool×Int):PV:=jC (wq r.1) (boo r.2.1) (i64 r.2.2)
@[simp] theorem Z6 (r : bD × Bool × Int) : aQ (Li r) := by simp [Li]
def Sw{r:bD}(h:r.dof=true):cb r=(fW r,r.w):=by unfold cb;rw[if_pos h]
def WS{r:bD}(h:¬r.dof=true)(k:ia (bq (fW r) r.ip).1.err=true):cb r=(wIp (bq (fW r) r.ip).1 (W64 ((bq (fW r) r.ip).1.r.ip+8)),(bq (fW r) r.ip).2):=by unfold cb;rw[if_neg h,if_pos k]
def Vf{r:bD}(h:¬r.dof=true)(k:¬ia (bq (fW r) r.ip).1.err=true):cb r=((bq (fW r) r.ip).1,(bq (fW r) r.ip).2):=by unfold cb;rw[if_neg h,if_neg k]
def Ty{r:bD}(k:ia (cb r).1.err=true):ik r=jY (cb r).1 (cb r).2:=by unfold ik;rw[if_pos k]
def Xw{r:bD}(k:¬ia (cb r).1.err=true):ik r=(cb r).1:=by unfold ik;rw[if_neg k]
def UT{r:bD}{N:Nat}(g:gh N r):KX N (cb r).1/\ab (cb r).2:=by
 have b:KX N (fW r):=⟨g.m.x,g.ip,bt⟩
 have f:=gK b r.ip
 unfold cb
 split
 ·exact⟨b,g.w⟩
 refine⟨?_,f.2⟩
 dsimp only
 split
 ·exact YA f.1 (cR _)
 exact f.1
def Vz{e:xH}(h:Jf e=true):e=.halt:=by cases e<;>first|rfl|cases h
def ab3{e:xH}(h:ia e=false)(k:Jf e=false):∃c,e=.bad c:=by
 cases e with
 | ok=>cases h
 | bad c=>exact⟨c,rfl⟩
 | halt=>cases k
def SF{r:bD}{c:Int}(h:r.vm.f.length≠0):(cp r c).2=0:=by unfold cp;rw[if_neg h]
def Rn{r:bD}{c:Int}(h:r.vm.f.length=0):cp r c=(r,c):=by unfold cp;rw[if_pos h]
def Bm:List PV:=[PV.val (Value.int IntKind.i64 0),PV.val (Value.int IntKind.i64 0),PV.val (Value.int IntKind.i64 0),PV.val (Value.int IntKind.i64 0),PV.val (Value.int IntKind.i64 0),PV.seq 0 [] SK.clip,PV.seq 0 [] SK.clip,PV.val (Value.int IntKind.i64 0),PV.seq 0 [] SK.clip,PV.seq 0 [] SK.clip,PV.seq 0 [] SK.clip,PV.seq 0 [] SK.clip,PV.val (Value.int IntKind.i64 0),PV.seq 0 [] SK.clip,PV.seq 0 [] SK.clip,PV.val (Value.bool false),PV.seq 0 [] SK.clip,PV.val (Value.int IntKind.i64 0),PV.val (Value.int IntKind.i64 0),PV.val (Value.int IntKind.i64 0),PV.val (Value.int IntKind.i64 0),PV.val (Value.int IntKind.i64 0),PV.seq 0 [] SK.clip,PV.val (Value.int IntKind.i64 0),PV.val (Value.int IntKind.i64 0),PV.val (Value.bool false),PV.val (Value.int IntKind.i64 0)]
@[simp] theorem al3 : aG Bm := by simp [Bm, aG, aQ]
def IM(a:Addr)(r:bD)(N:Nat)(g:gh N r)(hN:N<=800000)(hfu:ab r.fuel):∀(H:List Ob),(∀o∈fS a,∃k:Nat,H[k]?=some o)->HC prog 87 [wq r] H (Li (r3 r)) H:=by
 have kb:KX N (fW r):=⟨g.m.x,g.ip,bt⟩
 have kt:=UT g
 have hvt:(cb r).1.r.vm=r.vm:=by rw[(uY r).2]
 have hvo:dn (cb r).1.r.vm:=by rw[hvt];exact Vs g.m.v (by omega)
 have gw:bb N (cb r).1.r.vm:=by rw[hvt];exact g.m
 refine fh (ey a) tG (rs:=[.cell 2 145,.tmp 3,.tmp 4]) func87 rfl rfl rfl (by simp) (by simp) (fun B=>?_)
 refine zu4 ?_
 refine Ws<|zu3 ?_
 refine Wi rfl (fun hi1=>?_) (fun hi1=>?_)
 ·have q1:r.fuel<1:=oT hi1
  refine zu4 ?_
  refine zR ?_
  unfold r3;rw[if_pos q1];rfl
 have q1:¬r.fuel<1:=oF hi1
 refine Wj<|zu4 ?_
 refine zp5 ?_
 refine zs2 ?_
 refine zu3 ?_
 refine zp5 ?_
 refine dh (zs:=cPW a (fW r)) (lO tG rfl) rfl rfl rfl rfl rfl rfl rfl rfl rfl rfl rfl ?_
 refine Wn<|QH [(1,.ptr 2 0),(2,.ptr 3 0),(5,.ptr 4 0),(6,i64 (cb r).2)] [.glob 1 (haltV a),.glob 0 etV,.cells (si r) 145,.cells Bm 145,.cells (cPW a (cb r).1) 197] [] ?_ ?_
 ·refine zu3 ?_
  refine Wi rfl (fun hi2=>?_) (fun hi2=>?_)
  ·have q2:¬r.dof=true:=by simpa using hi2
   refine zp3 ?_
   refine zc rfl func116 ((jL a (fW r) kb r.ip g.ip) _ _ rfl) ?_
   refine zs1 ?_
   refine zp1 ?_
   refine Wd rfl rfl (co (lO tG rfl) rfl rfl rfl rfl) ?_
   refine Wd rfl rfl (aW rfl (by kernel_rfl) rfl (by exact sD _ _)) ?_
   refine Wn<|Wi rfl (fun hi3=>?_) (fun hi3=>?_)
   ·have q3:ia (bq (fW r) r.ip).1.err=true:=hi3
    have hT:=WS q2 q3
    refine aa rfl ?_
    refine zy5 ?_
    refine z1 ?_
    refine dh (zs:=cPW a (cb r).1) (lO tG rfl) rfl rfl rfl rfl rfl rfl rfl (by rw[hT];rfl) rfl rfl rfl ?_
    refine Wn ?_
    exact⟨[],(cV (sub:=by repeat (first|exact ez|refine dA (by first|exact cq rfl|exact cq (congrArg i64 (by rw[hT]))) ?_)))⟩
   have q3:¬ia (bq (fW r) r.ip).1.err=true:=by simpa using hi3
   have hT:=Vf q2 q3
   refine ae0 (H':=[.glob 1 (haltV a),.glob 0 etV,.cells (si r) 145,.cells Bm 145,.cells (cPW a (cb r).1) 197]) (by rw[hT];rfl) ?_
   refine Wj ?_
   exact⟨[],(cV (sub:=by repeat (first|exact ez|refine dA (by first|exact cq rfl|exact cq (congrArg i64 (by rw[hT]))) ?_)))⟩
  have q2:r.dof=true:=by simpa using hi2
  have hT:=Sw q2
  refine ae0 (H':=[.glob 1 (haltV a),.glob 0 etV,.cells (si r) 145,.cells Bm 145,.cells (cPW a (cb r).1) 197]) (by rw[hT];rfl) ?_
  refine Wj ?_
  exact⟨[],(cV (sub:=by repeat (first|exact ez|refine dA (by first|exact cq rfl|exact cq (congrArg i64 (by rw[hT]))) ?_)))⟩
 refine zu4 ?_
 refine QH [(1,.ptr 2 0),(2,.ptr 3 0),(5,.ptr 4 0),(6,i64 (cb r).2),(7,.ptr 5 0)] [.glob 1 (haltV a),.glob 0 etV,.cells (si r) 145,.cells Bm 145,.cells (cPW a (ik r)) 197,.cells (si (cb r).1.r) 145] [] ?_ ?_
 ·refine zp1 ?_
  refine Wd rfl rfl (co (lO tG rfl) rfl rfl rfl rfl) ?_
  refine Wd rfl rfl (aW rfl (by kernel_rfl) rfl (by exact sD _ _)) ?_
  refine Wn<|Wi rfl (fun hi4=>?_) (fun hi4=>?_)
  ·have q4:ia (cb r).1.err=true:=hi4
   refine aa rfl ?_
   refine z1 ?_
   refine zc rfl func117 (Zx a (cb r).1 kt.1 (by omega) hvo (cb r).2 kt.2 _ _ rfl (bO 0 1 rfl rfl)) ?_
   refine iS (H':=[.glob 1 (haltV a),.glob 0 etV,.cells (si r) 145,.cells Bm 145,.cells (cPW a (ik r)) 197,.cells (si (cb r).1.r) 145]) (by rw[Ty q4];rfl) ?_
   refine Wn ?_
   exact⟨[],cV⟩
  have q4:¬ia (cb r).1.err=true:=by simpa using hi4
  refine ae0 (H':=[.glob 1 (haltV a),.glob 0 etV,.cells (si r) 145,.cells Bm 145,.cells (cPW a (ik r)) 197,.cells (si (cb r).1.r) 145]) (by rw[Xw q4];rfl) ?_
  refine Wj ?_
  exact⟨[],cV⟩
 refine Ws<|zp1 ?_
 refine Wd rfl rfl (co (lO tG rfl) rfl rfl rfl rfl) ?_
 refine Wd rfl rfl (i3 rfl (by kernel_rfl) rfl (by exact sD _ _)) ?_
 refine Wn<|Wi rfl (fun hi5=>?_) (fun hi5=>?_)
 ·have q5:ia (ik r).err=false:=by simpa using hi5
  refine aa rfl ?_
  refine zy2 ?_
  refine Wd rfl rfl (co (lO tG rfl) rfl rfl rfl rfl) ?_
  refine Wd rfl rfl (oz (out:=[i64 (cb r).2,Bo a (ik r).err]) (lO tG rfl) rfl rfl (by clear q5;generalize (ik r).err=e0;cases e0<;>rfl)) ?_
  refine Wd rfl rfl (pj rfl (by kernel_rfl) rfl) ?_
  refine z1 ?_
  refine dh (zs:=si (ik r).r++[.ifc 199 (.agg [i64 (cb r).2,Bo a (ik r).err])]) (lO tG rfl) rfl rfl rfl rfl rfl rfl rfl rfl rfl rfl rfl ?_
  refine Wn<|zu1 ?_
  refine Ws<|Wl<|zp2 ?_
  refine Wd rfl rfl (aW rfl (by kernel_rfl) rfl (by rfl)) ?_
  refine zs1 ?_
  refine Wf rfl (by rfl) ?_
  refine zp2 ?_
  refine Wd rfl rfl (zB (j:=0) (lO tG rfl) rfl rfl rfl) ?_
  refine zc rfl func118 ((aC9 a (cb r).2 (ik r).err q5) _) ?_
  refine zs1 ?_
  refine Wi rfl (fun hi7=>?_) (fun hi7=>?_)
  ·have q7:=Vz hi7
   refine zu5 ?_
   refine zR ?_
   unfold r3;rw[if_neg q1,q7];rfl
  obtain⟨c,hc⟩:=ab3 q5 hi7
  refine zp2 ?_
  refine Wa 76 rfl ((congrArg (fun z=>PV.ifc 199 (.agg [i64 (cb r).2,z])) (show Bo a (ik r).err=.ifc 201 (.agg [i64 c]) by rw[hc];rfl))) ?_
  refine Wd rfl rfl (pj rfl (by kernel_rfl) rfl) ?_
  refine zc rfl func83 (aA0 (cb r).2 c _ 6 1 rfl rfl) ?_
  refine zs2 ?_
  refine Wf rfl (by rfl) ?_
  refine Wj<|Ws<|zp3 ?_
  refine zc rfl func119 ((Ex (cb r).1.r c N gw) _) ?_
  refine zy5 ?_
  refine zs1 ?_
  refine zu1 ?_
  refine Wi rfl (fun hi9=>?_) (fun hi9=>?_)
  ·refine zu4 ?_
   refine zR ?_
   unfold r3;rw[if_neg q1,hc];exact congrArg (fun z=>jC (wq (cp (cb r).1.r c).1) (boo false) (i64 z)) (SF (oT hi9)).symm
  refine Wj<|Ws<|am [14,0,16,11,0,0] [0,1,2,3,4,5] mG rfl (by kernel_rfl) ?_
  refine zU 5 ?_
  refine z3 ?_
  refine zU 6 ?_
  refine dK 3 tG rfl rfl rfl rfl rfl trivial rfl ?_
  iterate 2 refine z3 ?_
  refine ap ?_
  refine zR ?_
  unfold r3;rw[if_neg q1,hc];dsimp only;rw[Rn (Decidable.of_not_not (oF hi9))];rfl
 have q5:ia (ik r).err=true:=by simpa using hi5
 refine Wj<|zu1 ?_
 refine Ws<|Wl<|zp1 ?_
 refine Wd rfl rfl (co (lO tG rfl) rfl rfl rfl rfl) ?_
 refine Wd rfl rfl (aW rfl (by kernel_rfl) rfl (by exact sD _ _)) ?_
 refine zs1 ?_
 refine Wt rfl (by omega) ?_
 refine zu5 ?_
 refine zR ?_
 unfold r3;rw[if_neg q1,gS.1 q5];rfl
def In(v:VVm):af prog 112 [eVm v] (eVm (yH v)):=by
 refine zY func112 fun B=>?_
 refine zu2 ?_
 refine zu4 ?_
 refine zu2 ?_
 refine zR ?_
 rfl
def F0(v:VVm)(xt fuel:Int):af prog 84 [eVm v,i64 xt,i64 fuel] (wq (zx v xt fuel)):=by
 refine zY func84 fun B=>?_
 refine zu2 ?_
 refine zp1 ?_
 refine zc rfl func112 ((In v) _) ?_
 refine zs4 ?_
 refine zR ?_
 rfl
def Fx(a:Addr)(r:bD)(N:Nat)(g:gh N r)(hN:N<=800000)(hfu:ab r.fuel):∀(H:List Ob),(∀o∈fS a,∃k:Nat,H[k]?=some o)->HC prog 87 [wq r] H (Li (bS r)) H:=by
 rw[<-D1 r g.m.right.d]
 exact IM a r N g hN hfu
def tB{r:bD}{N:Nat}(g:gh N r):gh (N+2) (bS r).1:=by rw[<-D1 r g.m.right.d];exact M0 g
def qJ(r:bD)(c:Int):(cp r c).1.fuel=r.fuel:=by unfold cp;split<;>rfl
def vV{r:bD}(hd:(r.vm.d.length:Int)<=r.vm.conf.data)(h:¬r.fuel<1):(bS r).1.fuel=W64 (r.fuel-1):=by
 rw[<-D1 r hd]
 unfold r3
 rw[if_neg h]
 have e1:(cb r).1.r.fuel=W64 (r.fuel-1):=by rw[(uY r).2]
 have e2:(ik r).r.fuel=W64 (r.fuel-1):=by unfold ik;exact bp (by rw[CH,e1]) e1
 cases (ik r).err with
 | ok=>exact e2
 | halt=>exact e2
 | bad c=>show(cp _ c).1.fuel=_;rw[qJ,e1]
def wJ{r:bD}(h:r.fuel<1):bS r=(r,false,-256):=by unfold bS;rw[if_pos h]
def Rp{n:Int}(h1:1<=n)(h2:n<=300000):W64 (n-1)=n-1:=by
 show IntKind.i64.wrap (n-1)=n-1
 rw[bB];unfold wrap64;omega
def O8{n:Nat}{r:bD}(h:(bS r).2.1=true\/(bS r).2.2≠0):xl (n+1) r=(yH (bS r).1.vm,(bS r).1.fuel,(bS r).2.2):=by
 show(if _ then _ else _)=_;rw[if_pos h]
def L2{n:Nat}{r:bD}(h:¬((bS r).2.1=true\/(bS r).2.2≠0)):xl (n+1) r=xl n (bS r).1:=by
 show(if _ then _ else _)=_;rw[if_neg h]
structure C9 (R:VVm×Int×Int) (s:Nat×bD):Prop where
 run:xl s.1 s.2=R
 f0:0<=s.2.fuel
 f1:s.2.fuel<(s.1:Int)
 g:gh (700000-2*s.1) s.2
 n:s.1<=300001
def C9.fit{R:VVm×Int×Int}{s:Nat×bD}(h:C9 R s):ab s.2.fuel:=by have:=h.f0;have:=h.f1;have:=h.n;unfold ab;omega
def C9.pos{R:VVm×Int×Int}{s:Nat×bD}(h:C9 R s):∃n,s.1=n+1:=⟨s.1-1,by have:=h.f0;have:=h.f1;omega⟩
def C9.out{R:VVm×Int×Int}{s:Nat×bD}(h:C9 R s)(k:(bS s.2).2.1=true\/(bS s.2).2.2≠0):(yH (bS s.2).1.vm,(bS s.2).1.fuel,(bS s.2).2.2)=R:=by
 obtain⟨n,hn⟩:=h.pos
 rw[<-h.run,hn,O8 k]
def C9.next{R:VVm×Int×Int}{s:Nat×bD}(h:C9 R s)(k:¬((bS s.2).2.1=true\/(bS s.2).2.2≠0)):C9 R (s.1-1,(bS s.2).1)/\s.1-1<s.1:=by
 obtain⟨n,hn⟩:=h.pos
 have hr:=h.run
 have f0:=h.f0
 have f1:=h.f1
 have hN:=h.n
 have hf:¬s.2.fuel<1:=fun q=>k (by rw[wJ q];exact .inr (show(-256:Int)≠0 by decide))
 have hw:=vV h.g.m.right.d hf
 rw[Rp (by omega) (by omega)]at hw
 refine⟨⟨?_,?_,?_,?_,?_⟩,by omega⟩
 ·show xl (s.1-1) _=R
  rw[hn,L2 k]at hr
  rw[hn];exact hr
 ·show 0<=(bS s.2).1.fuel;omega
 ·show(bS s.2).1.fuel<((s.1-1:Nat):Int);omega
 ·exact(tB h.g).up (by show _<=700000-2*(s.1-1);omega)
 show s.1-1<=300001;omega
def As{v:VVm}{N:Nat}(g:bb N v){xt fuel:Int}(hx:ab xt):gh N (zx v xt fuel):=by
 have hc:=g.right.fV
 unfold dW at hc
 have a:=Qx g (r:=[]) (by show(0:Int)<=_;omega) bA
 have b:=QX a (f:=[]) rfl (Nat.zero_le _) (fun x hx=>by cases hx)
 exact⟨b,by unfold ab;show -9223372036854775808<=(16:Int)/\(16:Int)<=9223372036854775807;omega,hx⟩
def zVm:List PV:=Bm.take 23
@[simp] theorem ao5 : aG zVm := by simp [zVm, Bm, aG, aQ]
structure ag where
 f:ae
 s:Str
 at_:Int
 fuel:Int
 err:Int
def an3(e:Int):Value:=if e=0 then .nilIface else .iface 141 (.agg #[.int .i64 e])
def Ba(e:Int):PV:=.val (an3 e)
def aB0:Ba 0=.val .nilIface:=rfl
def RZ{e:Int}(h:e≠0):Ba e=.val (.iface 141 (.agg #[.int .i64 e])):=by unfold Ba an3;rw[if_neg h]
@[simp] theorem al5 (e : Int) : aQ (Ba e) := by unfold Ba; simp
def dH(e:Int):vX (Ba e)=some (decide (e=0)):=by
 by_cases h:e=0
 ·rw[h];rfl
 rw[RZ h,decide_eq_false h];rfl
def VK(e:Int):Imp (.ifc 141 (.agg [i64 e])) (.val (.iface 141 (.agg #[.int .i64 e]))):=fun c v h=>by rw[x9 h];exact av _ _
def aR(l:ag):List PV:=gA l.f++[str l.s,i64 l.at_,i64 l.fuel,Ba l.err]
@[simp] theorem ai2 (l : ag) : aG (aR l) := by simp [aR, gA, cVm, CT]
def yL(e:Int):af prog 79 [i64 e] (Ba e):=by
 refine zY func79 fun B=>?_
 refine zu1 ?_
 refine Ws<|zu2 ?_
 refine Wi rfl (fun hi1=>?_) (fun hi1=>?_)
 ·have q:e=0:=by simpa using hi1
  refine zu1 ?_
  refine zR ?_
  (rw[q];rfl)
 have q:¬e=0:=by simpa using hi1
 refine Wj<|zp2 ?_
 refine Wd rfl rfl (pj rfl (by kernel_rfl) rfl) ?_
 refine Wm 7 rfl (VK e) ?_
 refine zs1 ?_
 refine zR ?_
 (rw[RZ q];done)
def oOk(l:ag)(e:Int):ag:=if l.err=0 then {l with err:=e} else l
def ok0{l:ag}{e:Int}(h:l.err=0):oOk l e={l with err:=e}:=by unfold oOk;rw[if_pos h]
def ok1{l:ag}{e:Int}(h:¬l.err=0):oOk l e=l:=by unfold oOk;rw[if_neg h]
def oy(l:ag)(e:Int):∀(H:List Ob) (i:Nat),H[i]?=some (.cells (aR l) 89)->HC prog 41 (.ptr i 0::[i64 e]) H (boo (decide ((oOk l e).err=0))) (H.set i (.cells (aR (oOk l e)) 89)):=by
 by_cases he:e=0
 ·have he':=he
  refine zM func41 fun B=>?_
  refine zu1 ?_
  refine Ws<|zp4 ?_
  refine Wd rfl rfl (aW rfl (by kernel_rfl) rfl (by exact dH _)) ?_
  refine Wn<|Wi rfl (fun hi1=>?_) (fun hi1=>?_)
  ·have q:l.err=0:=oT hi1
   refine aa rfl ?_
   refine zy2 ?_
   refine zc rfl func79 ((yL e) _) ?_
   refine Wa 12 rfl ((show Ba e=PV.val .nilIface from by rw[he];rfl)) ?_
   refine zs3 ?_
   refine zp4 ?_
   refine Wd rfl rfl (aW rfl (by kernel_rfl) rfl (by rfl)) ?_
   refine zs1 ?_
   refine Wq<|aP rfl rfl ?_ ?_
   ·(rw[ok0 q];exact congrArg boo (decide_eq_true he).symm)
   (rw[ok0 q,he];rfl)
  have q:¬l.err=0:=oF hi1
  refine Wj<|zp4 ?_
  refine Wd rfl rfl (aW rfl (by kernel_rfl) rfl (by exact dH _)) ?_
  refine zs1 ?_
  refine Wq<|aP rfl rfl ?_ ?_
  ·(rw[ok1 q];rfl)
  (rw[ok1 q];rfl)
 have he':=he
 refine zM func41 fun B=>?_
 refine zu1 ?_
 refine Ws<|zp4 ?_
 refine Wd rfl rfl (aW rfl (by kernel_rfl) rfl (by exact dH _)) ?_
 refine Wn<|Wi rfl (fun hi1=>?_) (fun hi1=>?_)
 ·have q:l.err=0:=oT hi1
  refine aa rfl ?_
  refine zy2 ?_
  refine zc rfl func79 ((yL e) _) ?_
  refine Wa 12 rfl ((RZ he)) ?_
  refine zs3 ?_
  refine zp4 ?_
  refine Wd rfl rfl (aW rfl (by kernel_rfl) rfl (by rfl)) ?_
  refine zs1 ?_
  refine Wq<|aP rfl rfl ?_ ?_
  ·(rw[ok0 q];exact congrArg boo (decide_eq_false he).symm)
  (rw[ok0 q];unfold aR;rw[RZ he];rfl)
 have q:¬l.err=0:=oF hi1
 refine Wj<|zp4 ?_
 refine Wd rfl rfl (aW rfl (by kernel_rfl) rfl (by exact dH _)) ?_
 refine zs1 ?_
 refine Wq<|aP rfl rfl ?_ ?_
 ·(rw[ok1 q];rfl)
 (rw[ok1 q];rfl)
def ka(l:ag)(r:ae×Int):ag:=if (oOk l r.2).err=0 then {oOk l r.2 with f:=r.1} else oOk l r.2
def vD(l:ag)(r:ae×Int):∀(H:List Ob) (i:Nat),H[i]?=some (.cells (aR l) 89)->HC prog 177 (.ptr i 0::[bE r.1,i64 r.2]) H (.tup []) (H.set i (.cells (aR (ka l r)) 89)):=by
 refine zM func177 fun B=>?_
 refine zu1 ?_
 refine zp2 ?_
 refine zc rfl func41 ((oy l r.2) _ _ rfl) ?_
 refine Wn<|Wi rfl (fun hi1=>?_) (fun hi1=>?_)
 ·have q:(oOk l r.2).err=0:=oT hi1
  refine aa rfl ?_
  refine zs5 ?_
  refine aS rfl rfl ?_ ?_
  ·rfl
  (rw[ka,if_pos q];rfl)
 have q:¬(oOk l r.2).err=0:=oF hi1
 refine Wj<|aS rfl rfl ?_ ?_
 ·rfl
 (rw[ka,if_neg q];rfl)
def fJ(l:ag)(r:VVm×Int):ag:=if (oOk l r.2).err=0 then {oOk l r.2 with f:={(oOk l r.2).f with vm:=r.1}} else oOk l r.2
def od(l:ag)(r:VVm×Int):∀(H:List Ob) (i:Nat),H[i]?=some (.cells (aR l) 89)->HC prog 80 (.ptr i 0::[eVm r.1,i64 r.2]) H (.tup []) (H.set i (.cells (aR (fJ l r)) 89)):=by
 refine zM func80 fun B=>?_
 refine zu1 ?_
 refine zp2 ?_
 refine zc rfl func41 ((oy l r.2) _ _ rfl) ?_
 refine Wn<|Wi rfl (fun hi1=>?_) (fun hi1=>?_)
 ·have q:(oOk l r.2).err=0:=oT hi1
  refine aa rfl ?_
  refine zy5 ?_
  refine zs1 ?_
  refine aS rfl rfl ?_ ?_
  ·rfl
  (rw[fJ,if_pos q];rfl)
 have q:¬(oOk l r.2).err=0:=oF hi1
 refine Wj<|aS rfl rfl ?_ ?_
 ·rfl
 (rw[fJ,if_neg q];rfl)
def bY(l:ag):ag×Str:=if (bu l.s l.at_).1=[]then(oOk l (-16),[])else({l with at_:=(bu l.s l.at_).2},(bu l.s l.at_).1)
def sy(l:ag)(hs:l.s.length<=1000000):∀(H:List Ob) (i:Nat),H[i]?=some (.cells (aR l) 89)->HC prog 194 (.ptr i 0::[]) H (str (bY l).2) (H.set i (.cells (aR (bY l).1) 89)):=by
 obtain⟨w,hw⟩:∃w,bu l.s l.at_=w:=⟨_,rfl⟩
 have pW:=Gh l.s l.at_ hs
 rw[hw]at pW
 have e1:w.1=[]->bY l=(oOk l (-16),[]):=fun q=>by unfold bY;rw[hw,if_pos q]
 have e2:¬w.1=[]->bY l=({l with at_:=w.2},w.1):=fun q=>by unfold bY;rw[hw,if_neg q]
 refine zM func194 fun B=>?_
 refine zu1 ?_
 refine Ws<|am [0,0,0,1,0,0,0,1,0,0,0,0,0,0] [0,1,2,3,4,5,6,7,8,9,10,11,12,13] mG rfl (by kernel_rfl) ?_
 iterate 3 refine z3 ?_
 refine z5 ?_
 iterate 3 refine z3 ?_
 refine z5 ?_
 refine Xc rfl rfl rfl rfl (fun _=>dC rfl func36 rfl rfl ((pW) _)) ?_
 iterate 5 refine z3 ?_
 refine ap ?_
 refine Ws<|zp2 ?_
 refine zq 18 ?_
 refine Wn<|Wi rfl (fun hi1=>?_) (fun hi1=>?_)
 ·have q:w.1=[]:=oT hi1
  refine zp1 ?_
  refine zc rfl func41 ((oy l (-16)) _ _ rfl) ?_
  refine Wn<|zu1 ?_
  refine Wq<|aP rfl rfl ?_ ?_
  ·(rw[e1 q];rfl)
  (rw[e1 q];rfl)
 have q:¬w.1=[]:=oF hi1
 refine Wj<|zu5 ?_
 refine zu2 ?_
 refine Wq<|aP rfl rfl ?_ ?_
 ·(rw[e2 q];rfl)
 (rw[e2 q];rfl)
def iv(l:ag)(c:UInt8):ag×Str:=if (kZ l.s l.at_ c).2.2=true then({l with at_:=(kZ l.s l.at_ c).2.1},(kZ l.s l.at_ c).1)else(oOk l (-39),[])
def DR(l:ag)(c:UInt8)(hs:l.s.length<=1000000):∀(H:List Ob) (i:Nat),H[i]?=some (.cells (aR l) 89)->HC prog 188 (.ptr i 0::[.val (.int .u8 (c.toNat:Int))]) H (str (iv l c).2) (H.set i (.cells (aR (iv l c).1) 89)):=by
 obtain⟨w,hw⟩:∃w,kZ l.s l.at_ c=w:=⟨_,rfl⟩
 have pW:=Rf l.s l.at_ c hs
 rw[hw]at pW
 have e1:w.2.2=true->iv l c=({l with at_:=w.2.1},w.1):=fun q=>by unfold iv;rw[hw,if_pos q]
 have e2:w.2.2=false->iv l c=(oOk l (-39),[]):=fun q=>by unfold iv;rw[hw,if_neg (by rw[q];decide)]
 refine zM func188 fun B=>?_
 refine zu1 ?_
 refine Ws<|am [0,0,0,1,0,0,0,1,0,0,0,0,0,0,0,0,0] [0,1,2,3,4,5,6,7,8,9,10,11,12,13,14,15,16] mG rfl (by kernel_rfl) ?_
 iterate 3 refine z3 ?_
 refine z5 ?_
 iterate 3 refine z3 ?_
 refine z5 ?_
 refine z3 ?_
 refine Xc rfl rfl rfl rfl (fun _=>dC rfl func219 rfl rfl ((pW) _)) ?_
 iterate 7 refine z3 ?_
 refine ap ?_
 refine Ws<|zu2 ?_
 refine Wi rfl (fun hi1=>?_) (fun hi1=>?_)
 ·have q:w.2.2=false:=by simpa using hi1
  refine zp1 ?_
  refine zc rfl func41 ((oy l (-39)) _ _ rfl) ?_
  refine Wn<|zu1 ?_
  refine Wq<|aP rfl rfl ?_ ?_
  ·(rw[e2 q];rfl)
  (rw[e2 q];rfl)
 have q:w.2.2=true:=by simpa using hi1
 refine Wj<|zu5 ?_
 refine zu2 ?_
 refine Wq<|aP rfl rfl ?_ ?_
 ·(rw[e1 q];rfl)
 (rw[e1 q];rfl)
def mg(l:ag):ag×Int:=(fJ l ((dO l.f.vm).2.1,(dO l.f.vm).2.2),(dO l.f.vm).1)
def Ii(l:ag)(hd:l.f.vm.d.length<=100000):∀(H:List Ob) (i:Nat),H[i]?=some (.cells (aR l) 89)->HC prog 176 (.ptr i 0::[]) H (i64 (mg l).2) (H.set i (.cells (aR (mg l).1) 89)):=by
 refine zM func176 fun B=>?_
 refine zu1 ?_
 refine zp5 ?_
 refine zc rfl func211 ((Rc l.f.vm hd) _) ?_
 refine zy5 ?_
 refine zs3 ?_
 refine zp3 ?_
 refine zc rfl func80 ((od l ((dO l.f.vm).2.1,(dO l.f.vm).2.2)) _ _ rfl) ?_
 refine Wn<|zu2 ?_
 refine Wq<|aP rfl rfl ?_ ?_
 ·rfl
 rfl
def oDo(l:ag)(r:VVm×Int):ag:=if l.err=0 then fJ l r else l
def do0{l:ag}{r:VVm×Int}(h:l.err=0):oDo l r=fJ l r:=by unfold oDo;rw[if_pos h]
def do1{l:ag}{r:VVm×Int}(h:¬l.err=0):oDo l r=l:=by unfold oDo;rw[if_neg h]
def uW(l:ag)(n:Int):ag:=oDo l (gD l.f.vm n)
def DB(l:ag)(n:Int)(hd:l.f.vm.d.length<=100000)(hc:ab l.f.vm.conf.data):∀(H:List Ob) (i:Nat),H[i]?=some (.cells (aR l) 89)->HC prog 43 (.ptr i 0::[i64 n]) H (.tup []) (H.set i (.cells (aR (uW l n)) 89)):=by
 refine zM func43 fun B=>?_
 refine zp4 ?_
 refine Wd rfl rfl (aW rfl (by kernel_rfl) rfl (by exact dH _)) ?_
 refine Wn<|Wi rfl (fun hi1=>?_) (fun hi1=>?_)
 ·have q:l.err=0:=oT hi1
  refine aa rfl ?_
  refine zy5 ?_
  refine zy2 ?_
  refine zc rfl func82 ((K7 l.f.vm n hd hc) _) ?_
  refine zy2 ?_
  refine zc rfl func80 ((od l (gD l.f.vm n)) _ _ rfl) ?_
  refine Wn<|aS rfl rfl ?_ ?_
  ·rfl
  unfold uW;((rw[do0 q];rfl))
 have q:¬l.err=0:=oF hi1
 refine Wj<|aS rfl rfl ?_ ?_
 ·rfl
 unfold uW;((rw[do1 q];rfl))
def ri(l:ag)(n:Int):ag:=oDo l (lT l.f.vm n)
def rZ(l:ag)(n:Int)(hm:cy l.f.vm.mem)(hh:fG l.f.vm.mem l.f.vm.here):∀(H:List Ob) (i:Nat),H[i]?=some (.cells (aR l) 89)->HC prog 69 (.ptr i 0::[i64 n]) H (.tup []) (H.set i (.cells (aR (ri l n)) 89)):=by
 refine zM func69 fun B=>?_
 refine zp4 ?_
 refine Wd rfl rfl (aW rfl (by kernel_rfl) rfl (by exact dH _)) ?_
 refine Wn<|Wi rfl (fun hi1=>?_) (fun hi1=>?_)
 ·have q:l.err=0:=oT hi1
  refine aa rfl ?_
  refine zy5 ?_
  refine zy2 ?_
  refine zc rfl func99 ((vU l.f.vm n hm hh) _) ?_
  refine zy2 ?_
  refine zc rfl func80 ((od l (lT l.f.vm n)) _ _ rfl) ?_
  refine Wn<|aS rfl rfl ?_ ?_
  ·rfl
  unfold ri;((rw[do0 q];rfl))
 have q:¬l.err=0:=oF hi1
 refine Wj<|aS rfl rfl ?_ ?_
 ·rfl
 unfold ri;((rw[do1 q];rfl))
def th(l:ag)(n:Int):ag:=oDo l (Gt l.f.vm n)
def ua(l:ag)(n:Int)(h:CK 2 (kN l.f.vm)):∀(H:List Ob) (i:Nat),H[i]?=some (.cells (aR l) 89)->HC prog 42 (.ptr i 0::[i64 n]) H (.tup []) (H.set i (.cells (aR (th l n)) 89)):=by
 refine zM func42 fun B=>?_
 refine zp4 ?_
 refine Wd rfl rfl (aW rfl (by kernel_rfl) rfl (by exact dH _)) ?_
 refine Wn<|Wi rfl (fun hi1=>?_) (fun hi1=>?_)
 ·have q:l.err=0:=oT hi1
  refine aa rfl ?_
  refine zy5 ?_
  refine zy2 ?_
  refine zc rfl func81 ((ND l.f.vm n h) _) ?_
  refine zy2 ?_
  refine zc rfl func80 ((od l (Gt l.f.vm n)) _ _ rfl) ?_
  refine Wn<|aS rfl rfl ?_ ?_
  ·rfl
  unfold th;((rw[do0 q];rfl))
 have q:¬l.err=0:=oF hi1
 refine Wj<|aS rfl rfl ?_ ?_
 ·rfl
 unfold th;((rw[do1 q];rfl))
def xc(l:ag)(name:Str):ag:=ri l (ma name)
def s6(l:ag)(name:Str)(hm:cy l.f.vm.mem)(hh:fG l.f.vm.mem l.f.vm.here):∀(H:List Ob) (i:Nat),H[i]?=some (.cells (aR l) 89)->HC prog 187 (.ptr i 0::[str name]) H (.tup []) (H.set i (.cells (aR (xc l name)) 89)):=by
 have hn:=lf
 have hx:=yx aq name aq.length 0 (by rw[hn];omega)
 have w1:IntKind.i64.wrap (32+IntKind.i64.wrap (8*tf aq name aq.length 0))=ma name:=by unfold ma;rw[gq (n:=8*_) (by omega) (by omega),gq (by omega) (by omega)]
 refine zM func187 fun B=>?_
 refine aa rfl ?_
 refine z1 ?_
 refine zc rfl func98 ((ny) _) ?_
 refine z1 ?_
 refine zc rfl func113 ((sZ aq name (by rw[hn];omega)) _) ?_
 refine zy2 ?_
 refine Wa 9 rfl (zI9 w1) ?_
 refine zc rfl func69 ((rZ l (ma name) hm hh) _ _ rfl) ?_
 refine Wn<|aS rfl rfl ?_ ?_
 ·rfl
 rfl
def bJ(f:ae):Bool:=decide (f.comp.xt≠0/\(an f.vm.mem 8).1≠0)
def jM(f:ae)(hm:f.vm.mem.b.length<=140737488355328):af prog 23 [bE f] (boo (bJ f)):=by
 refine zY func23 fun B=>?_
 refine zu2 ?_
 refine zp3 ?_
 refine zc rfl func39 ((fX f.vm.mem 8 hm (by unfold ab;omega)) _) ?_
 refine zs5 ?_
 refine zp5 ?_
 refine Wb 16 rfl (fun hg1=>?_) (fun hg1=>?_)
 ·have q1:f.comp.xt≠0:=by simpa using hg1
  refine zs4 ?_
  refine zR ?_
  (refine congrArg boo ?_;unfold bJ;simp[q1];rfl)
 have q1:¬f.comp.xt≠0:=by simpa using hg1
 iterate 2 refine z6 ?_
 refine zs2 ?_
 refine zR ?_
 (refine congrArg boo ?_;unfold bJ;rw[decide_eq_false (fun z=>q1 z.1)];done)
def DX(l:List aL):Prop:=∀x∈l,ab x.xt
structure LK (k:Nat) (l:ag):Prop where
 f:FK k l.f
 s:l.s.length<=1000000
 d:l.f.vm.d.length<=100000
 data:ab l.f.vm.conf.data
 out0:0<=l.f.vm.conf.out
 out1:l.f.vm.conf.out<=1000000
 out:l.f.vm.out.length<=1000000
 cfl:l.f.comp.cf.length<=32
 cf:∀c∈l.f.comp.cf,wb c
 dict:l.f.comp.xt≠0->0<=l.f.comp.dict/\l.f.comp.dict<l.f.vm.dict.length
 xts:DX l.f.vm.dict
def FK.ck{k:Nat}{f:ae}(h:FK k f):CK k (kN f.vm):=⟨h.b,h.old,h.h0,h.h1,Nat.zero_le _,fun c hc=>by cases hc⟩
def LK.ck{k:Nat}{l:ag}(h:LK k l):CK k ⟨l.f.vm,l.f.comp.cf,0⟩:=⟨h.f.b,h.f.old,h.f.h0,h.f.h1,h.cfl,h.cf⟩
def LK.end_{l:ag}(h:LK 2 l):Yr l.f:=⟨h.f,fun q=>h.dict (fun z=>by unfold lM at q;rw[if_pos z]at q;cases q)⟩
def LK.down{k j:Nat}{l:ag}(h:LK k l)(hj:j<=k):LK j l:=⟨h.f.down hj,h.s,h.d,h.data,h.out0,h.out1,h.out,h.cfl,h.cf,h.dict,h.xts⟩
def uh(l:ag)(e:Int):(oOk l e).f=l.f/\(oOk l e).s=l.s:=by unfold oOk;split<;>exact⟨rfl,rfl⟩
def IY(l:ag)(r:ae×Int):(ka l r).f=r.1\/(ka l r).f=l.f:=by
 unfold ka;split
 ·exact .inl rfl
 exact .inr (uh l _).1
def lA(l:ag):(bY l).1.f=l.f/\(bY l).1.s=l.s:=by unfold bY;split;exact uh l _;exact⟨rfl,rfl⟩
def G7(s:Str)(a:Int):(bu s a).1.length<=s.length:=by unfold bu;dsimp only;simp;omega
def vB(l:ag):(bY l).2.length<=l.s.length:=by unfold bY;split;exact Nat.zero_le _;exact G7 _ _
def IT(l:ag)(c:UInt8):(iv l c).1.f=l.f/\(iv l c).1.s=l.s:=by unfold iv;split;exact⟨rfl,rfl⟩;exact uh l _
def GR(l:ag)(c:UInt8):(iv l c).2.length<=l.s.length:=by
 unfold iv
 split
 ·show(kZ l.s l.at_ c).1.length<=_
  unfold kZ
  dsimp only
  split<;>simp<;>omega
 exact Nat.zero_le _
def ui(l:ag)(on:Bool)(fuel:Int):ag:=if (bY l).1.err=0 then ka (bY l).1 (gX (bY l).1.f (bY l).2 on fuel)else(bY l).1
def GI(l:ag)(on:Bool)(fuel:Int)(h:LK 3 l):∀(H:List Ob) (i:Nat),H[i]?=some (.cells (aR l) 89)->HC prog 175 (.ptr i 0::[boo on,i64 fuel]) H (.tup []) (H.set i (.cells (aR (ui l on fuel)) 89)):=by
 have e1:=lA l
 have e2:=vB l
 have pN:=sy l h.s
 unfold ui
 obtain⟨a,ha⟩:∃a,bY l=a:=⟨_,rfl⟩
 rw[ha]at e1 e2 pN ⊢
 have hs:=h.s
 have hF:=h.f
 rw[<-e1.1]at hF
 refine zM func175 fun B=>?_
 refine zp1 ?_
 refine zc rfl func194 ((pN) _ _ rfl) ?_
 refine zs1 ?_
 refine zp4 ?_
 refine Wd rfl rfl (aW rfl (by kernel_rfl) rfl (by exact dH _)) ?_
 refine Wn<|Wi rfl (fun hi1=>?_) (fun hi1=>?_)
 ·have q:a.1.err=0:=oT hi1
  refine aa rfl ?_
  refine zy5 ?_
  refine zy3 ?_
  refine zc rfl func210 ((IG a.1.f a.2 on fuel (by omega) hF) _) ?_
  refine zy2 ?_
  refine zc rfl func177 ((vD a.1 (gX a.1.f a.2 on fuel)) _ _ rfl) ?_
  refine Wn<|aS rfl rfl ?_ ?_
  ·rfl
  (rw[if_pos q];rfl)
 have q:¬a.1.err=0:=oF hi1
 refine Wj<|aS rfl rfl ?_ ?_
 ·rfl
 (rw[if_neg q];rfl)
def EM(l:ag):ag:=ui l false 0
def SQ(l:ag)(h:LK 3 l):∀(H:List Ob) (i:Nat),H[i]?=some (.cells (aR l) 89)->HC prog 128 (.ptr i 0::[]) H (.tup []) (H.set i (.cells (aR (EM l)) 89)):=by
 refine zM func128 fun B=>?_
 refine aa rfl ?_
 refine z1 ?_
 refine zc rfl func175 ((GI l false 0 h) _ _ rfl) ?_
 refine Wn<|aS rfl rfl ?_ ?_
 ·rfl
 rfl
def yJ(l:ag):ag:=ka l (kj l.f)
def Uw(l:ag)(h:LK 2 l):∀(H:List Ob) (i:Nat),H[i]?=some (.cells (aR l) 89)->HC prog 130 (.ptr i 0::[]) H (.tup []) (H.set i (.cells (aR (yJ l)) 89)):=by
 refine zM func130 fun B=>?_
 refine aa rfl ?_
 refine zy5 ?_
 refine zc rfl func178 ((RU l.f h.end_) _) ?_
 refine zy2 ?_
 refine zc rfl func177 ((vD l (kj l.f)) _ _ rfl) ?_
 refine Wn<|aS rfl rfl ?_ ?_
 ·rfl
 rfl
def Ls(l:ag):ag:=xc l [40,100,111,101,115,41]
def WL(l:ag)(h:LK 1 l):∀(H:List Ob) (i:Nat),H[i]?=some (.cells (aR l) 89)->HC prog 144 (.ptr i 0::[]) H (.tup []) (H.set i (.cells (aR (Ls l)) 89)):=by
 refine zM func144 fun B=>?_
 refine aa rfl ?_
 refine z1 ?_
 refine zc rfl func187 ((s6 l [40,100,111,101,115,41] h.f.mem h.f.here) _ _ rfl) ?_
 refine Wn<|aS rfl rfl ?_ ?_
 ·rfl
 rfl
def Qr(l:ag):ag:=xc l [40,101,120,105,116,41]
def WE(l:ag)(h:LK 1 l):∀(H:List Ob) (i:Nat),H[i]?=some (.cells (aR l) 89)->HC prog 143 (.ptr i 0::[]) H (.tup []) (H.set i (.cells (aR (Qr l)) 89)):=by
 refine zM func143 fun B=>?_
 refine aa rfl ?_
 refine z1 ?_
 refine zc rfl func187 ((s6 l [40,101,120,105,116,41] h.f.mem h.f.here) _ _ rfl) ?_
 refine Wn<|aS rfl rfl ?_ ?_
 ·rfl
 rfl
def Zv(l:ag):ag:=ri l l.f.comp.xt
def Jg(l:ag)(h:LK 1 l):∀(H:List Ob) (i:Nat),H[i]?=some (.cells (aR l) 89)->HC prog 142 (.ptr i 0::[]) H (.tup []) (H.set i (.cells (aR (Zv l)) 89)):=by
 refine zM func142 fun B=>?_
 refine aa rfl ?_
 refine zy5 ?_
 refine zy2 ?_
 refine zc rfl func69 ((rZ l l.f.comp.xt h.f.mem h.f.here) _ _ rfl) ?_
 refine Wn<|aS rfl rfl ?_ ?_
 ·rfl
 rfl
def GD(l:ag):ag:=(iv l 41).1
def HY(l:ag)(hs:l.s.length<=1000000):∀(H:List Ob) (i:Nat),H[i]?=some (.cells (aR l) 89)->HC prog 147 (.ptr i 0::[]) H (.tup []) (H.set i (.cells (aR (GD l)) 89)):=by
 refine zM func147 fun B=>?_
 refine aa rfl ?_
 refine z1 ?_
 refine zc rfl func188 ((DR l 41 hs) _ _ rfl) ?_
 refine Wn<|aS rfl rfl ?_ ?_
 ·rfl
 rfl
def R7(l:ag):ag:={l with at_:=l.s.length}
def Xb(l:ag):∀(H:List Ob) (i:Nat),H[i]?=some (.cells (aR l) 89)->HC prog 148 (.ptr i 0::[]) H (.tup []) (H.set i (.cells (aR (R7 l)) 89)):=by
 refine zM func148 fun B=>?_
 refine aa rfl ?_
 refine zy5 ?_
 refine z1 ?_
 refine Wa 7 rfl (eM _) ?_
 refine zs3 ?_
 refine aS rfl rfl ?_ ?_
 ·rfl
 rfl
def vj(l:ag):ag:=oDo (iv l 34).1 (J6 (iv l 34).1.f.vm (iv l 34).2)
def Lx(l:ag)(h:LK 4 l):∀(H:List Ob) (i:Nat),H[i]?=some (.cells (aR l) 89)->HC prog 145 (.ptr i 0::[]) H (.tup []) (H.set i (.cells (aR (vj l)) 89)):=by
 have e1:=IT l 34
 have e2:=GR l 34
 have pU:=DR l 34 h.s
 unfold vj
 obtain⟨a,ha⟩:∃a,iv l 34=a:=⟨_,rfl⟩
 rw[ha]at e1 e2 pU ⊢
 have hs:=h.s
 have hF:=h.f.ck
 rw[<-e1.1]at hF
 refine zM func145 fun B=>?_
 refine zp1 ?_
 refine zc rfl func188 ((pU) _ _ rfl) ?_
 refine zs1 ?_
 refine zp4 ?_
 refine Wd rfl rfl (aW rfl (by kernel_rfl) rfl (by exact dH _)) ?_
 refine Wn<|Wi rfl (fun hi1=>?_) (fun hi1=>?_)
 ·have q:a.1.err=0:=oT hi1
  refine aa rfl ?_
  refine zy5 ?_
  refine zy2 ?_
  refine zc rfl func189 ((Mb a.1.f.vm a.2 (by omega) hF) _) ?_
  refine zy2 ?_
  refine zc rfl func80 ((od a.1 (J6 a.1.f.vm a.2)) _ _ rfl) ?_
  refine Wn<|aS rfl rfl ?_ ?_
  ·rfl
  (rw[do0 q];rfl)
 have q:¬a.1.err=0:=oF hi1
 refine Wj<|aS rfl rfl ?_ ?_
 ·rfl
 (rw[do1 q];rfl)
def YC{k:Nat}{f:ae}(h:FK k f){v:VVm}(hb:v.mem.b.length<=1000000)(ho:v.mem.old.length+k<=1000000)(h0:1368<=v.here)(h1:v.here<=v.mem.b.length)(hd:v.dict=f.vm.dict)(hh:v.hand=f.vm.hand):FK k {f with vm:=v} :=
 ⟨hb,ho,h0,h1,by rw[show({f with vm:=v}:ae).vm=v from rfl,hd];exact h.dict,by rw[show({f with vm:=v}:ae).vm=v from rfl,hd];exact h.each,by rw[show({f with vm:=v}:ae).vm=v from rfl,hh];exact h.hand⟩
def Xx{k:Nat}{l:ag}{r:VVm×Int}(h:FK k l.f)(hr:FK k {l.f with vm:=r.1}):FK k (fJ l r).f:=by
 unfold fJ
 rw[(uh l r.2).1]
 split
 ·exact hr
 rw[(uh l r.2).1];exact h
def Yg{k:Nat}{l:ag}{r:VVm×Int}(h:FK k l.f)(hr:FK k {l.f with vm:=r.1}):FK k (oDo l r).f:=by
 unfold oDo;split
 ·exact Xx h hr
 exact h
def ac0{k:Nat}{x:CW}(h:CK (k+2) x)(s:Str):CK k (vF x s):=by
 unfold vF
 split
 ·unfold CP
  have mk:dy x.v.mem (cJ x.v.mem x.v.here s).1 1:=gR _
  have mh:=iu (m:=x.v.mem) s h.h0 h.h1
  obtain⟨r,hr⟩:∃r,cJ x.v.mem x.v.here s=r:=⟨_,rfl⟩
  rw[hr]at mk mh ⊢
  have m2:dy r.1 (aM r.1 r.2.1).1 1:=gR _
  have mh2:1368<=(aM r.1 r.2.1).2.1/\(aM r.1 r.2.1).2.1<=r.1.b.length:=iu _ mh.1 (by rw[mk.len];exact mh.2)
  have l1:=mk.len
  have l2:=mk.old
  have l3:=m2.len
  have l4:=m2.old
  have l5:=h.old
  have l6:=h.b
  split
  ·exact⟨by show(aM r.1 r.2.1).1.b.length<=_;omega,by show(aM r.1 r.2.1).1.old.length+k<=_;omega,mh2.1,by show(aM r.1 r.2.1).2.1<=((aM r.1 r.2.1).1.b.length:Int);omega,h.len,h.cf⟩
  have q:=h.down (j:=k) (by omega);exact⟨q.b,q.old,q.h0,q.h1,q.len,q.cf⟩
 exact h.down (by omega)
def m5(w:CW)(n:Int):(gi w n).v.dict=w.v.dict/\(gi w n).v.hand=w.v.hand:=by unfold gi;split<;>exact⟨rfl,rfl⟩
def P1(x:CW)(s:Str):(vF x s).v.dict=x.v.dict/\(vF x s).v.hand=x.v.hand:=by
 unfold vF CP
 split
 ·split<;>exact⟨rfl,rfl⟩
 exact⟨rfl,rfl⟩
def L1{k:Nat}{f:ae}(h:FK k f){w:CW}(hw:CK k w)(hd:w.v.dict=f.vm.dict)(hh:w.v.hand=f.vm.hand):FK k {f with vm:=(yQ w f.vm).1}:=by
 unfold yQ nS
 split
 ·exact h
 exact YC h hw.b hw.old hw.h0 hw.h1 hd hh
def ae1{k:Nat}{f:ae}(h:FK (k+4) f)(s:Str):FK k {f with vm:=(J6 f.vm s).1}:=by
 have c1:CK (k+2) (Nb f.vm s):=qb (k:=k+2) (jk (k:=k+3) h.ck _) _
 have e1:=P1 (Nb f.vm s) s
 have e2:=m5 (ce (kN f.vm) [40,115,116,114,41]) s.length
 have e3:=m5 (kN f.vm) (ma [40,115,116,114,41])
 exact L1 (h.down (by omega)) (ac0 c1 s) (e1.1.trans (e2.1.trans e3.1)) (e1.2.trans (e2.2.trans e3.2))
def VZ{k:Nat}{l:ag}(h:FK (k+4) l.f):FK k (vj l).f:=by
 unfold vj
 have e1:=(IT l 34).1
 exact Yg (by rw[e1];exact h.down (by omega)) (by rw[e1];exact ae1 h _)
def ue(l:ag):ag:=if bJ l.f=true then xc (vj l) [84,89,80,69]else oDo (iv l 34).1 (iJ (iv l 34).1.f.vm (iv l 34).2)
def QA(l:ag)(h:LK 5 l):∀(H:List Ob) (i:Nat),H[i]?=some (.cells (aR l) 89)->HC prog 146 (.ptr i 0::[]) H (.tup []) (H.set i (.cells (aR (ue l)) 89)):=by
 have kT:FK 1 (vj l).f:=VZ (k:=1) h.f
 have e1:=IT l 34
 have e2:=GR l 34
 have pU:=DR l 34 h.s
 have eP:bJ l.f=false->ue l=oDo (iv l 34).1 (iJ (iv l 34).1.f.vm (iv l 34).2):=fun q=>by unfold ue;rw[if_neg (by rw[q];decide)]
 have hs:=h.s
 have ho0:=h.out0
 have ho1:=h.out1
 have ho2:=h.out
 rw[<-e1.1]at ho0 ho1 ho2
 obtain⟨a,ha⟩:∃a,iv l 34=a:=⟨_,rfl⟩
 rw[ha]at e1 e2 pU eP ho0 ho1 ho2
 refine zM func146 fun B=>?_
 refine Ws<|zp4 ?_
 refine zc rfl func23 ((jM l.f (by have:=h.f.b;omega)) _) ?_
 refine Wn<|Wi rfl (fun hi1=>?_) (fun hi1=>?_)
 ·have q1:bJ l.f=true:=hi1
  refine zp1 ?_
  refine zc rfl func145 ((Lx l (h.down (by decide))) _ _ rfl) ?_
  refine Wn<|zp1 ?_
  refine zc rfl func187 ((s6 (vj l) [84,89,80,69] kT.mem kT.here) _ _ rfl) ?_
  refine Wn<|Wq<|aP rfl rfl ?_ ?_
  ·rfl
  (rw[ue,if_pos q1];rfl)
 have q1:bJ l.f=false:=hi1
 refine Wj<|zp1 ?_
 refine zc rfl func188 ((pU) _ _ rfl) ?_
 refine zs1 ?_
 refine zp4 ?_
 refine Wd rfl rfl (aW rfl (by kernel_rfl) rfl (by exact dH _)) ?_
 refine Wn<|Wi rfl (fun hi2=>?_) (fun hi2=>?_)
 ·have q:a.1.err=0:=oT hi2
  refine aa rfl ?_
  refine zy5 ?_
  refine zy2 ?_
  refine zc rfl func190 ((GW a.1.f.vm a.2 ⟨ho0,ho1⟩ ho2 (by omega)) _) ?_
  refine zy2 ?_
  refine zc rfl func80 ((od a.1 (iJ a.1.f.vm a.2)) _ _ rfl) ?_
  refine Wn<|aS rfl rfl ?_ ?_
  ·rfl
  (rw[eP q1,do0 q];rfl)
 have q:¬a.1.err=0:=oF hi2
 refine Wj<|aS rfl rfl ?_ ?_
 ·rfl
 (rw[eP q1,do1 q];rfl)
def kI(l:ag)(name:Str):ag :=
 if (fJ l ((bh l.f.vm l.f.comp.cf name).1,(bh l.f.vm l.f.comp.cf name).2.2)).err=0 then {fJ l ((bh l.f.vm l.f.comp.cf name).1,(bh l.f.vm l.f.comp.cf name).2.2)with f:={(fJ l ((bh l.f.vm l.f.comp.cf name).1,(bh l.f.vm l.f.comp.cf name).2.2)).f with comp:={(fJ l ((bh l.f.vm l.f.comp.cf name).1,(bh l.f.vm l.f.comp.cf name).2.2)).f.comp with cf:=(bh l.f.vm l.f.comp.cf name).2.1}}}
 else fJ l ((bh l.f.vm l.f.comp.cf name).1,(bh l.f.vm l.f.comp.cf name).2.2)
def I7(l:ag)(name:Str)(h:LK 40 l):∀(H:List Ob) (i:Nat),H[i]?=some (.cells (aR l) 89)->HC prog 101 (.ptr i 0::[str name]) H (.tup []) (H.set i (.cells (aR (kI l name)) 89)):=by
 have pB:=A8 l.f.vm l.f.comp.cf name h.ck
 unfold kI
 obtain⟨r,hr⟩:∃r,bh l.f.vm l.f.comp.cf name=r:=⟨_,rfl⟩
 rw[hr]at pB ⊢
 have pM:=od l (r.1,r.2.2)
 obtain⟨m,hm⟩:∃m,fJ l (r.1,r.2.2)=m:=⟨_,rfl⟩
 rw[hm]at pM ⊢
 refine zM func101 fun B=>?_
 refine Ws<|am [0,0,0,0,1,0,0,0,0,0,1,0,0,0,0,0,0,2,3,0,0] [0,1,2,3,4,5,6,7,8,9,10,11,12,13,14,15,16,17,18,19,20] mG rfl (by kernel_rfl) ?_
 iterate 4 refine z3 ?_
 refine z5 ?_
 iterate 5 refine z3 ?_
 refine z5 ?_
 refine z3 ?_
 refine Xc rfl rfl rfl rfl (fun _=>dC rfl func151 rfl rfl ((pB) _)) ?_
 iterate 4 refine z3 ?_
 refine mj tG rfl rfl rfl rfl rfl trivial rfl ?_
 refine ct tG rfl rfl rfl rfl rfl trivial ?_
 iterate 2 refine z3 ?_
 refine ap ?_
 refine zp3 ?_
 refine zc rfl func80 ((pM) _ _ rfl) ?_
 refine Wn<|zp4 ?_
 refine Wd rfl rfl (aW rfl (by kernel_rfl) rfl (by exact dH _)) ?_
 refine Wn<|Wi rfl (fun hi1=>?_) (fun hi1=>?_)
 ·have q:m.err=0:=oT hi1
  refine aa rfl ?_
  refine zy5 ?_
  refine zs2 ?_
  refine aS rfl rfl ?_ ?_
  ·rfl
  (rw[if_pos q];rfl)
 have q:¬m.err=0:=oF hi1
 refine Wj<|aS rfl rfl ?_ ?_
 ·rfl
 (rw[if_neg q];rfl)
def jz(l:ag)(D:ae->Str->ae×Int):ag:=if (bY l).1.err=0 then ka (bY l).1 (D (bY l).1.f (bY l).2)else(bY l).1
def dT(l:ag):ag:=jz l fun f name=>bR f name true [257,0]
def XA(F:FuncId)(D:ae->Str->ae×Int)(k:Nat):Prop:=∀f name,name.length<=1000000->FK k f->∀H,nD prog F [bE f,str name] H (gE (D f name)) H
def yI{F:FuncId}{D:ae->Str->ae×Int}{k:Nat}(hD:XA F D k)(l:ag)(hs:l.s.length<=1000000)(hF:FK k l.f):∀(H:List Ob) (i:Nat),H[i]?=some (.cells (aR l) 89)->HC prog 158 (.ptr i 0::[.fn (.func F) [] []]) H (.tup []) (H.set i (.cells (aR (jz l D)) 89)):=by
 have e1:=lA l
 have e2:=vB l
 have pN:=sy l hs
 unfold jz
 obtain⟨a,ha⟩:∃a,bY l=a:=⟨_,rfl⟩
 rw[ha]at e1 e2 pN ⊢
 rw[<-e1.1]at hF
 refine zM func158 fun B=>?_
 refine zp1 ?_
 refine zc rfl func194 ((pN) _ _ rfl) ?_
 refine zs1 ?_
 refine zp4 ?_
 refine Wd rfl rfl (aW rfl (by kernel_rfl) rfl (by exact dH _)) ?_
 refine Wn<|Wi rfl (fun hi1=>?_) (fun hi1=>?_)
 ·have q:a.1.err=0:=oT hi1
  refine aa rfl ?_
  refine zy5 ?_
  refine zy2 ?_
  refine Wc rfl rfl (eQ rfl rfl (hD a.1.f a.2 (by omega) hF _)) ?_
  refine zy2 ?_
  refine zc rfl func177 ((vD a.1 (D a.1.f a.2)) _ _ rfl) ?_
  refine Wn<|aS rfl rfl ?_ ?_
  ·rfl
  (rw[if_pos q];rfl)
 have q:¬a.1.err=0:=oF hi1
 refine Wj<|aS rfl rfl ?_ ?_
 ·rfl
 (rw[if_neg q];rfl)
def JM:XA 159 (fun f name=>bR f name true [257,0]) 3:=fun f name hn h H=>⟨⟨_,func159,rfl,rfl⟩,Hv f name hn h H⟩
def Ck(l:ag)(hs:l.s.length<=1000000)(hF:FK 3 l.f):∀(H:List Ob) (i:Nat),H[i]?=some (.cells (aR l) 89)->HC prog 114 (.ptr i 0::[]) H (.tup []) (H.set i (.cells (aR (dT l)) 89)):=by
 refine zM func114 fun B=>?_
 refine aa rfl ?_
 refine z1 ?_
 refine zc rfl func158 ((yI JM l hs hF) _ _ rfl) ?_
 refine Wn<|aS rfl rfl ?_ ?_
 ·rfl
 rfl
def fK(F:FuncId):PV:=.fn (.func F) [] []
def QI(F:FuncId)(D:ae->Str->Int->ae×Int)(k:Nat):Prop:=∀f name n,name.length<=1000000->FK k f->∀H,nD prog F [bE f,str name,i64 n] H (gE (D f name n)) H
section
variable {F : FuncId} {D : ae -> Str -> Int -> ae × Int} {k : Nat}
def XY(hD:QI F D k)(l:ag)(f:ae)(name:Str)(n:Int)(hn:name.length<=1000000)(hF:FK k f):
  HC prog 216 [bE f,str name,.ptr 1 0,.ptr 2 0] [.cells (aR l) 89,.cells [fK F] 252,.cells [i64 n] 3] (gE (D f name n))
   [.cells (aR l) 89,.cells [fK F] 252,.cells [i64 n] 3,.cells (gA f) 42,.cells (gA (D f name n).1) 42]:=by
 refine lZ tG (rs:=[.cell 6 42,.tmp 7]) func216 rfl rfl rfl (fun B=>?_)
 refine zu3 ?_
 refine zp4 ?_
 refine Wc rfl rfl (eQ rfl rfl (hD f name n hn hF _)) ?_
 refine zs4 ?_
 refine Wq<|zH rfl ?_ ?_
 ·rfl
 rfl
def sx(l:ag)(D:ae->Str->Int->ae×Int):ag:=if (mg l).1.err=0 then jz (mg l).1 (fun f name=>D f name (mg l).2)else(mg l).1
def TB(hD:QI F D k)(l:ag)(n:Int)(h:LK k l)(q:(bY l).1.err=0):
  HC prog 158 [.ptr 0 0,.fn (.func 216) [] [.ptr 1 0,.ptr 2 0]] [.cells (aR l) 89,.cells [fK F] 252,.cells [i64 n] 3] (.tup [])
   [.cells (aR (jz l fun f name=>D f name n)) 89,.cells [fK F] 252,.cells [i64 n] 3,.cells (gA (bY l).1.f) 42,.cells (gA (D (bY l).1.f (bY l).2 n).1) 42]:=by
 have e1:=lA l
 have e2:=vB l
 have pN:=sy l h.s
 unfold jz
 obtain⟨a,ha⟩:∃a,bY l=a:=⟨_,rfl⟩
 rw[ha]at e1 e2 pN q ⊢
 have hs:=h.s
 have hF:=h.f
 rw[<-e1.1]at hF
 rw[if_pos q]
 refine lZ tG (rs:=[]) func158 rfl rfl rfl (fun B=>?_)
 refine zp1 ?_
 refine zc rfl func194 ((pN) _ _ rfl) ?_
 refine zs1 ?_
 refine zp4 ?_
 refine Wd rfl rfl (aW rfl (by kernel_rfl) rfl (by exact dH _)) ?_
 refine Wn<|Wt rfl (by exact decide_eq_true q) ?_
 refine aa rfl ?_
 refine zy5 ?_
 refine zy2 ?_
 refine Wc rfl rfl (dQ rfl rfl func216 rfl rfl ((XY hD a.1 a.1.f a.2 n (by omega) hF))) ?_
 refine zy2 ?_
 refine zc rfl func177 ((vD a.1 (D a.1.f a.2 n)) _ _ rfl) ?_
 refine Wn<|TI rfl ?_ ?_
 ·rfl
 rfl
def Pa(l:ag)(n:Int)(hs:l.s.length<=1000000)(q:¬(bY l).1.err=0):
  HC prog 158 [.ptr 0 0,.fn (.func 216) [] [.ptr 1 0,.ptr 2 0]] [.cells (aR l) 89,.cells [fK F] 252,.cells [i64 n] 3] (.tup [])
   [.cells (aR (jz l fun f name=>D f name n)) 89,.cells [fK F] 252,.cells [i64 n] 3]:=by
 have pN:=sy l hs
 unfold jz
 obtain⟨a,ha⟩:∃a,bY l=a:=⟨_,rfl⟩
 rw[ha]at pN q ⊢
 rw[if_neg q]
 refine lZ tG (rs:=[]) func158 rfl rfl rfl (fun B=>?_)
 refine zp1 ?_
 refine zc rfl func194 ((pN) _ _ rfl) ?_
 refine zs1 ?_
 refine zp4 ?_
 refine Wd rfl rfl (aW rfl (by kernel_rfl) rfl (by exact dH _)) ?_
 refine Wn<|Wf rfl (by exact decide_eq_false q) ?_
 refine Wj<|TI rfl ?_ ?_
 ·rfl
 rfl
def ZL(l:ag)(r:VVm×Int):(fJ l r).s=l.s:=by unfold fJ;split;exact(uh l _).2;exact(uh l _).2
def Bw(hD:QI F D k)(l:ag)(h:LK k l)(hP:LK k (mg l).1):∀(H:List Ob) (i:Nat),H[i]?=some (.cells (aR l) 89)->HC prog 180 (.ptr i 0::[fK F]) H (.tup []) (H.set i (.cells (aR (sx l D)) 89)):=by
 have pP:=Ii l h.d
 have hp:=ZL l ((dO l.f.vm).2.1,(dO l.f.vm).2.2)
 unfold sx
 change (mg l).1.s=l.s at hp
 obtain⟨p,hp'⟩:∃p,mg l=p:=⟨_,rfl⟩
 rw[hp']at pP hp hP ⊢
 have flK:aQ (fK F):=by simp[fK,aQ,aG]
 by_cases q:(bY p.1).1.err=0
 ·have q':=q
  refine jb tG (rs:=[]) func180 rfl rfl rfl (by(simp[aG,aQ,fK];done)) (by(simp;done)) (by(simp;done)) (by(simp;done)) (fun B=>?_)
  refine zu1 ?_
  refine zp1 ?_
  refine zc rfl func176 ((pP) _ _ rfl) ?_
  refine zs2 ?_
  refine zp4 ?_
  refine Wd rfl rfl (aW rfl (by kernel_rfl) rfl (by exact dH _)) ?_
  refine Wn<|Wi rfl (fun hi1=>?_) (fun hi1=>?_)
  ·have q1:p.1.err=0:=oT hi1
   refine aa rfl ?_
   refine zy2 ?_
   refine zc rfl func158 (TB hD p.1 p.2 hP q) ?_
   refine Wn<|aS rfl rfl ?_ ?_
   ·rfl
   (rw[if_pos q1];rfl)
  have q1:¬p.1.err=0:=oF hi1
  refine Wj<|aS rfl rfl ?_ ?_
  ·rfl
  (rw[if_neg q1];rfl)
 have q':=q
 refine jb tG (rs:=[]) func180 rfl rfl rfl (by(simp[aG,aQ,fK];done)) (by(simp;done)) (by(simp;done)) (by(simp;done)) (fun B=>?_)
 refine zu1 ?_
 refine zp1 ?_
 refine zc rfl func176 ((pP) _ _ rfl) ?_
 refine zs2 ?_
 refine zp4 ?_
 refine Wd rfl rfl (aW rfl (by kernel_rfl) rfl (by exact dH _)) ?_
 refine Wn<|Wi rfl (fun hi1=>?_) (fun hi1=>?_)
 ·have q1:p.1.err=0:=oT hi1
  refine aa rfl ?_
  refine zy2 ?_
  refine zc rfl func158 (Pa (F:=F) (D:=D) p.1 p.2 hP.s q) ?_
  refine Wn<|aS rfl rfl ?_ ?_
  ·rfl
  (rw[if_pos q1];rfl)
 have q1:¬p.1.err=0:=oF hi1
 refine Wj<|aS rfl rfl ?_ ?_
 ·rfl
 (rw[if_neg q1];rfl)
end
def JC(l:ag):ag:=sx l fun f name n=>bR f name false [258,0,n]
def En:QI 181 (fun f name n=>bR f name false [258,0,n]) 4:=fun f name n hn h H=>⟨⟨_,func181,rfl,rfl⟩,A7 f name n hn h H⟩
def F8(l:ag)(h:LK 4 l)(hP:LK 4 (mg l).1):∀(H:List Ob) (i:Nat),H[i]?=some (.cells (aR l) 89)->HC prog 132 (.ptr i 0::[]) H (.tup []) (H.set i (.cells (aR (JC l)) 89)):=by
 refine zM func132 fun B=>?_
 refine aa rfl ?_
 refine z1 ?_
 refine zc rfl func180 ((Bw En l h hP) _ _ rfl) ?_
 refine Wn<|aS rfl rfl ?_ ?_
 ·rfl
 rfl
end Go.Proofs.YtjcminooghmpeaaGreatDoor
