import Derived.Test.YtiibjcnedbncjaaGreatDoorPk6
set_option linter.unusedVariables false
set_option linter.unusedSimpArgs false
set_option maxRecDepth 100000
set_option maxHeartbeats 40000000
namespace Go.Proofs.YtiibjcnedbncjaaGreatDoor
open Go.RowKit
theorem Km:ab Tryz.prog 261 [i64 1] (bb 3 327 [.row [i64 1],.row [i64 3]]):=by
 refine pW tG (rs:=[.cell 2 155]) Tryz.func261 rfl rfl rfl (by simp) (by simp) (fun B=>?_)
 refine zp1 ?_
 refine bJ 1 _ rfl rfl rfl ?_
 refine zs1 ?_
 refine z8 ?_
 refine Wd rfl rfl (dg rfl) ?_
 refine Wd rfl rfl (dI (e:=3) (key:=.n (1)) (by kernel_rfl) rfl rfl rfl rfl (by kernel_rfl)) ?_
 refine Wd rfl rfl (dI (e:=3) (key:=.n (2)) (by kernel_rfl) rfl rfl rfl rfl (by kernel_rfl)) ?_
 refine Wd rfl rfl (dI (e:=3) (key:=.n (3)) (by kernel_rfl) rfl rfl rfl rfl (by kernel_rfl)) ?_
 refine Wd rfl rfl (dI (e:=3) (key:=.n (4)) (by kernel_rfl) rfl rfl rfl rfl (by kernel_rfl)) ?_
 refine z1 ?_
 refine ee 5 _ rfl rfl rfl ?_
 refine z1 ?_
 refine Wd rfl rfl (bi (b:=false) (e:=3) (key:=.n 1) (by kernel_rfl) (lO tG rfl) (by kernel_rfl) rfl rfl rfl rfl (by kernel_rfl) (rfl)) ?_
 refine zy2 ?_
 refine bJ 3 _ rfl rfl rfl ?_
 refine Wn ?_
 refine zu4 ?_
 refine zR ?_
 rfl
theorem La:ab Tryz.prog 261 [i64 2] (bb 4 327 [.row [i64 2],.row [i64 4]]):=by
 refine pW tG (rs:=[.cell 2 155]) Tryz.func261 rfl rfl rfl (by simp) (by simp) (fun B=>?_)
 refine zp1 ?_
 refine bJ 1 _ rfl rfl rfl ?_
 refine zs1 ?_
 refine z8 ?_
 refine Wd rfl rfl (dg rfl) ?_
 refine Wd rfl rfl (dI (e:=3) (key:=.n (1)) (by kernel_rfl) rfl rfl rfl rfl (by kernel_rfl)) ?_
 refine Wd rfl rfl (dI (e:=3) (key:=.n (2)) (by kernel_rfl) rfl rfl rfl rfl (by kernel_rfl)) ?_
 refine Wd rfl rfl (dI (e:=3) (key:=.n (3)) (by kernel_rfl) rfl rfl rfl rfl (by kernel_rfl)) ?_
 refine Wd rfl rfl (dI (e:=3) (key:=.n (4)) (by kernel_rfl) rfl rfl rfl rfl (by kernel_rfl)) ?_
 refine z1 ?_
 refine ee 5 _ rfl rfl rfl ?_
 refine z1 ?_
 refine Wd rfl rfl (bi (b:=false) (e:=3) (key:=.n 2) (by kernel_rfl) (lO tG rfl) (by kernel_rfl) rfl rfl rfl rfl (by kernel_rfl) (rfl)) ?_
 refine zy2 ?_
 refine bJ 3 _ rfl rfl rfl ?_
 refine Wn ?_
 refine zu4 ?_
 refine zR ?_
 rfl
theorem Lk:ab Tryz.prog 261 [i64 3] (bb 4 327 [.row [i64 3],.row [i64 4]]):=by
 refine pW tG (rs:=[.cell 2 155]) Tryz.func261 rfl rfl rfl (by simp) (by simp) (fun B=>?_)
 refine zp1 ?_
 refine bJ 1 _ rfl rfl rfl ?_
 refine zs1 ?_
 refine z8 ?_
 refine Wd rfl rfl (dg rfl) ?_
 refine Wd rfl rfl (dI (e:=3) (key:=.n (1)) (by kernel_rfl) rfl rfl rfl rfl (by kernel_rfl)) ?_
 refine Wd rfl rfl (dI (e:=3) (key:=.n (2)) (by kernel_rfl) rfl rfl rfl rfl (by kernel_rfl)) ?_
 refine Wd rfl rfl (dI (e:=3) (key:=.n (3)) (by kernel_rfl) rfl rfl rfl rfl (by kernel_rfl)) ?_
 refine Wd rfl rfl (dI (e:=3) (key:=.n (4)) (by kernel_rfl) rfl rfl rfl rfl (by kernel_rfl)) ?_
 refine z1 ?_
 refine ee 5 _ rfl rfl rfl ?_
 refine z1 ?_
 refine Wd rfl rfl (bi (b:=false) (e:=3) (key:=.n 3) (by kernel_rfl) (lO tG rfl) (by kernel_rfl) rfl rfl rfl rfl (by kernel_rfl) (rfl)) ?_
 refine zy2 ?_
 refine bJ 3 _ rfl rfl rfl ?_
 refine Wn ?_
 refine zu4 ?_
 refine zR ?_
 rfl
theorem Jo:ab Tryz.prog 261 [i64 4] (bb 1 327 [.row [i64 4],.row [i64 1]]):=by
 refine pW tG (rs:=[.cell 2 155]) Tryz.func261 rfl rfl rfl (by simp) (by simp) (fun B=>?_)
 refine zp1 ?_
 refine bJ 1 _ rfl rfl rfl ?_
 refine zs1 ?_
 refine z8 ?_
 refine Wd rfl rfl (dg rfl) ?_
 refine Wd rfl rfl (dI (e:=3) (key:=.n (1)) (by kernel_rfl) rfl rfl rfl rfl (by kernel_rfl)) ?_
 refine Wd rfl rfl (dI (e:=3) (key:=.n (2)) (by kernel_rfl) rfl rfl rfl rfl (by kernel_rfl)) ?_
 refine Wd rfl rfl (dI (e:=3) (key:=.n (3)) (by kernel_rfl) rfl rfl rfl rfl (by kernel_rfl)) ?_
 refine Wd rfl rfl (dI (e:=3) (key:=.n (4)) (by kernel_rfl) rfl rfl rfl rfl (by kernel_rfl)) ?_
 refine z1 ?_
 refine ee 5 _ rfl rfl rfl ?_
 refine z1 ?_
 refine Wd rfl rfl (bi (b:=false) (e:=3) (key:=.n 4) (by kernel_rfl) (lO tG rfl) (by kernel_rfl) rfl rfl rfl rfl (by kernel_rfl) (rfl)) ?_
 refine zy2 ?_
 refine bJ 3 _ rfl rfl rfl ?_
 refine Wn ?_
 refine zu4 ?_
 refine zR ?_
 rfl
theorem K1(v:VVm)(x:List Int)(hr:v.req.length≤100000)(hx:XOk 1 x):∀(H:List Ob) (i:Nat),H[i]?=some (.cells (cVm v) 36)→HC Tryz.prog 327 (.ptr i 0::[sq af x,.row [i64 4],.row [i64 1]]) H (tLv (em v x).2) (H.set i (.cells (cVm (em v x).1) 36)):=by
 have hl:=hx.len
 refine aO tG (rs:=[.tmp 6,.tmp 7]) Tryz.func327 rfl rfl rfl (by simp) (by simp) (by simp) (by simp) (fun B=>?_)
 refine zu2 ?_
 refine zu4 ?_
 refine Ws ?_
 refine zu2 ?_
 refine Wt rfl (by decide) ?_
 refine aa rfl ?_
 refine z1 ?_
 refine Wv tG rfl rfl rfl (by omega) (iN af 1 (fun _=>rfl) 0 (by(simp only[dnL]at *;omega))) ?_
 refine zs3 ?_
 refine zu3 ?_
 refine Ws ?_
 refine zp2 ?_
 refine gD 56 rfl (by decide) ?_
 iterate 10 refine z6 ?_
 refine zs1 ?_
 refine Wf rfl rfl ?_
 refine Wj ?_
 refine Ws ?_
 refine zp5 ?_
 refine zs1 ?_
 refine Wi rfl (fun hi2=>?_) (fun hi2=>?_)
 ·have h5:16≤(v.req.length:Int):=oT hi2
  refine zu2 ?_
  refine Wq ?_
  refine bj rfl rfl ?_ ?_
  ·rw[em,if_pos h5];rfl
  rw[em,if_pos h5];rfl
 have h5:¬16≤(v.req.length:Int):=oF hi2
 refine Wj ?_
 refine Ws ?_
 refine zu2 ?_
 refine Wt rfl (by decide) ?_
 refine Ws ?_
 refine ai [0,0,0,0,1,0,1,0,0,0,0,3] [0,1,2,3,4,5,6,7,8,9,10,11] mG rfl (by kernel_rfl) ?_
 iterate 4 refine z3 ?_
 refine z5 ?_
 refine Xc rfl rfl rfl rfl (fun _=>dC rfl Tryz.func328 rfl rfl ((rq _ (by omega)) _)) ?_
 refine z5 ?_
 refine z3 ?_
 refine Xa 83 rfl ((show PV.seq 1 _ .clip=.seq (List.length [(⟨4,0,0,0,0,xat x 0⟩:fZ)]) (List.flatMap ez [(⟨4,0,0,0,0,xat x 0⟩:fZ)]) .clip from rfl)) ?_
 refine cI rfl rfl rfl rfl (fun _=>db (lO tG rfl) rfl (lO tG rfl) (lO tG rfl) rfl rfl (by exact⟨_,rfl⟩) (by exact⟨rfl,rfl,ag _ 6 (fun _=>rfl) _,aB _ (fun _=>rfl) _⟩) (by exact ag _ 6 (fun _=>rfl) _) (by((simp_all;omega))) (by((simp_all;omega))) (by exact gV (bW (fun x=>by simp) _) (bW (fun x=>by simp) _))) ?_
 refine Xa 84 rfl (aM ez) ?_
 iterate 2 refine z3 ?_
 refine aZ tG rfl rfl rfl rfl rfl trivial ?_
 refine ah ?_
 refine zu2 ?_
 refine Wq ?_
 refine bj rfl rfl ?_ ?_
 ·rw[em,if_neg h5];rfl
 rw[em,if_neg h5];rfl
theorem Ph(v:VVm)(x:List Int)(hr:v.req.length≤100000)(hd:v.hand.length≤1000000)(hx:XOk 3 x):∀(H:List Ob) (i:Nat),H[i]?=some (.cells (cVm v) 36)→HC Tryz.prog 327 (.ptr i 0::[sq af x,.row [i64 1],.row [i64 3]]) H (tLv (ex v x).2) (H.set i (.cells (cVm (ex v x).1) 36)):=by
 have hl:=hx.len
 refine aO tG (rs:=[.tmp 6,.tmp 7]) Tryz.func327 rfl rfl rfl (by simp) (by simp) (by simp) (by simp) (fun B=>?_)
 refine zu2 ?_
 refine zu4 ?_
 refine Ws ?_
 refine zu2 ?_
 refine Wf rfl (by decide) ?_
 refine Ws ?_
 refine ai [0,0,0,0,0,0,0,0,0,0,3,0,3,0,3] [0,1,2,3,4,5,6,7,8,9,10,11,12,13,14] mG rfl (by kernel_rfl) ?_
 refine z3 ?_
 refine z9i ?_
 iterate 2 refine z3 ?_
 refine z9i ?_
 iterate 2 refine z3 ?_
 refine z9i ?_
 iterate 2 refine z3 ?_
 refine aZ tG rfl rfl rfl rfl rfl trivial ?_
 refine z3 ?_
 refine aZ tG rfl rfl rfl rfl rfl trivial ?_
 refine z3 ?_
 refine aZ tG rfl rfl rfl rfl rfl trivial ?_
 refine ah ?_
 refine Ws ?_
 refine ai [0,1,0,0,0,1,0,0,0,1,0,0,0,0,0,1,0,0,0,0,1,0,0] [0,1,2,3,4,5,6,7,8,9,10,11,12,13,14,15,16,17,18,19,20,21,22] mG rfl (by kernel_rfl) ?_
 refine z3 ?_
 refine z5 ?_
 iterate 2 refine z3 ?_
 refine bZ 33 rfl (fun hg1=>?_) (fun hg1=>?_)
 ·have h1:xat x 1<0:=oT hg1
  have hb:cf v x:=.inl h1
  iterate 8 refine z7 ?_
  iterate 2 refine z3 ?_
  iterate 3 refine z7 ?_
  iterate 2 refine z3 ?_
  iterate 3 refine z7 ?_
  refine z3 ?_
  refine ah ?_
  refine Wt rfl rfl ?_
  refine zu2 ?_
  refine Wq ?_
  refine bj rfl rfl ?_ ?_
  ·rw[ex,if_pos hb];rfl
  rw[ex,if_pos hb];rfl
 have h1:¬xat x 1<0:=oF hg1
 refine z3 ?_
 refine z5 ?_
 iterate 3 refine z3 ?_
 refine z5 ?_
 iterate 4 refine z3 ?_
 refine bZ 43 rfl (fun hg2=>?_) (fun hg2=>?_)
 ·have h2:(v.hand.length:Int)≤xat x 1:=oT hg2
  have hb:cf v x:=.inr (.inl h2)
  iterate 3 refine z7 ?_
  iterate 2 refine z3 ?_
  iterate 3 refine z7 ?_
  refine z3 ?_
  refine ah ?_
  refine Wt rfl rfl ?_
  refine zu2 ?_
  refine Wq ?_
  refine bj rfl rfl ?_ ?_
  ·rw[ex,if_pos hb];rfl
  rw[ex,if_pos hb];rfl
 have h2:¬(v.hand.length:Int)≤xat x 1:=oF hg2
 refine z3 ?_
 refine z5 ?_
 iterate 3 refine z3 ?_
 refine bZ 48 rfl (fun hg3=>?_) (fun hg3=>?_)
 ·have h3:xat x 2<0:=oT hg3
  have hb:cf v x:=.inr (.inr (.inl h3))
  iterate 3 refine z7 ?_
  refine z3 ?_
  refine ah ?_
  refine Wt rfl rfl ?_
  refine zu2 ?_
  refine Wq ?_
  refine bj rfl rfl ?_ ?_
  ·rw[ex,if_pos hb];rfl
  rw[ex,if_pos hb];rfl
 have h3:¬xat x 2<0:=oF hg3
 refine z3 ?_
 refine z5 ?_
 iterate 2 refine z3 ?_
 refine ah ?_
 refine Wi rfl (fun hi2=>?_) (fun hi2=>?_)
 ·have h4:4≤xat x 2:=oT hi2
  have hb:cf v x:=.inr (.inr (.inr (by omega)))
  refine zu2 ?_
  refine Wq ?_
  refine bj rfl rfl ?_ ?_
  ·rw[ex,if_pos hb];rfl
  rw[ex,if_pos hb];rfl
 have h4:¬4≤xat x 2:=oF hi2
 have hb:¬cf v x:=by rintro(h|h|h|h)<;>omega
 refine Wj ?_
 refine zu3 ?_
 refine Ws ?_
 refine zp2 ?_
 refine gD 56 rfl (by decide) ?_
 iterate 10 refine z6 ?_
 refine zs1 ?_
 refine Wf rfl rfl ?_
 refine Wj ?_
 refine Ws ?_
 refine zp5 ?_
 refine zs1 ?_
 refine Wi rfl (fun hi3=>?_) (fun hi3=>?_)
 ·have h5:16≤(v.req.length:Int):=oT hi3
  refine zu2 ?_
  refine Wq ?_
  refine bj rfl rfl ?_ ?_
  ·rw[ex,if_neg hb,if_pos h5];rfl
  rw[ex,if_neg hb,if_pos h5];rfl
 have h5:¬16≤(v.req.length:Int):=oF hi3
 refine Wj ?_
 refine Ws ?_
 refine zu2 ?_
 refine Wt rfl (by decide) ?_
 refine Ws ?_
 refine ai [0,0,0,0,1,0,1,0,0,0,0,3] [0,1,2,3,4,5,6,7,8,9,10,11] mG rfl (by kernel_rfl) ?_
 iterate 4 refine z3 ?_
 refine z5 ?_
 refine Xc rfl rfl rfl rfl (fun _=>dC rfl Tryz.func328 rfl rfl ((rq _ (by omega)) _)) ?_
 refine z5 ?_
 refine z3 ?_
 refine Xa 83 rfl ((show PV.seq 1 _ .clip=.seq (List.length [(⟨1,xat x 0,xat x 1,xat x 2,0,0⟩:fZ)]) (List.flatMap ez [(⟨1,xat x 0,xat x 1,xat x 2,0,0⟩:fZ)]) .clip from rfl)) ?_
 refine cI rfl rfl rfl rfl (fun _=>db (lO tG rfl) rfl (lO tG rfl) (lO tG rfl) rfl rfl (by exact⟨_,rfl⟩) (by exact⟨rfl,rfl,ag _ 6 (fun _=>rfl) _,aB _ (fun _=>rfl) _⟩) (by exact ag _ 6 (fun _=>rfl) _) (by((simp_all;omega))) (by((simp_all;omega))) (by exact gV (bW (fun x=>by simp) _) (bW (fun x=>by simp) _))) ?_
 refine Xa 84 rfl (aM ez) ?_
 iterate 2 refine z3 ?_
 refine aZ tG rfl rfl rfl rfl rfl trivial ?_
 refine ah ?_
 refine zu2 ?_
 refine Wq ?_
 refine bj rfl rfl ?_ ?_
 ·rw[ex,if_neg hb,if_neg h5];rfl
 rw[ex,if_neg hb,if_neg h5];rfl
theorem DC(k:Int)(hk:k≠4)(v:VVm)(x:List Int)(hr:v.req.length≤100000)(hd:v.hand.length≤1000000)(hx:XOk 4 x):∀(H:List Ob) (i:Nat),H[i]?=some (.cells (cVm v) 36)→HC Tryz.prog 327 (.ptr i 0::[sq af x,.row [i64 k],.row [i64 4]]) H (tLv (bn k v x).2) (H.set i (.cells (cVm (bn k v x).1) 36)):=by
 have hl:=hx.len
 refine aO tG (rs:=[.tmp 6,.tmp 7]) Tryz.func327 rfl rfl rfl (by simp) (by simp) (by simp) (by simp) (fun B=>?_)
 refine zu2 ?_
 refine zu4 ?_
 refine Ws ?_
 refine zu2 ?_
 refine Wf rfl (by exact beq_eq_false_iff_ne.2 hk) ?_
 refine Ws ?_
 refine V.ai [0,0,0,0,0,0,0,0,0,0,3,0,3,0,3] [0,1,2,3,4,5,6,7,8,9,10,11,12,13,14] mG rfl (by kernel_rfl) ?_
 refine V.z3 ?_
 refine V.Xi tG rfl rfl rfl rfl (fun _=>rfl) (by omega) (iN af 1 (fun _=>rfl) 0 (by(simp only[dnL]at *;omega))) ?_
 iterate 2 refine V.z3 ?_
 refine V.Xi tG rfl rfl rfl rfl (fun _=>rfl) (by omega) (iN af 1 (fun _=>rfl) 0 (by(simp only[dnL]at *;omega))) ?_
 iterate 2 refine V.z3 ?_
 refine V.Xi tG rfl rfl rfl rfl (fun _=>rfl) (by omega) (iN af 1 (fun _=>rfl) 0 (by(simp only[dnL]at *;omega))) ?_
 iterate 2 refine V.z3 ?_
 refine V.aZ tG rfl rfl rfl rfl rfl trivial ?_
 refine V.z3 ?_
 refine V.aZ tG rfl rfl rfl rfl rfl trivial ?_
 refine V.z3 ?_
 refine V.aZ tG rfl rfl rfl rfl rfl trivial ?_
 refine V.ah ?_
 refine Ws ?_
 refine V.ai [0,1,0,0,0,1,0,0,0,1,0,0,0,0,0,1,0,0,0,0,1,0,0] [0,1,2,3,4,5,6,7,8,9,10,11,12,13,14,15,16,17,18,19,20,21,22] mG rfl (by kernel_rfl) ?_
 refine V.z3 ?_
 refine V.z5 ?_
 iterate 2 refine V.z3 ?_
 refine V.bZ 33 rfl (fun hg1=>?_) (fun hg1=>?_)
 ·have h1:xat x 1<0:=oT hg1
  have hb:cf v x:=.inl h1
  iterate 8 refine V.z7 ?_
  iterate 2 refine V.z3 ?_
  iterate 3 refine V.z7 ?_
  iterate 2 refine V.z3 ?_
  iterate 3 refine V.z7 ?_
  refine V.z3 ?_
  refine V.ah ?_
  refine Wt rfl rfl ?_
  refine zu2 ?_
  refine Wq ?_
  refine bj rfl rfl ?_ ?_
  ·rw[bn,if_pos hb];rfl
  rw[bn,if_pos hb];rfl
 have h1:¬xat x 1<0:=oF hg1
 refine V.z3 ?_
 refine V.z5 ?_
 iterate 3 refine V.z3 ?_
 refine V.z5 ?_
 iterate 4 refine V.z3 ?_
 refine V.bZ 43 rfl (fun hg2=>?_) (fun hg2=>?_)
 ·have h2:(v.hand.length:Int)≤xat x 1:=oT hg2
  have hb:cf v x:=.inr (.inl h2)
  iterate 3 refine V.z7 ?_
  iterate 2 refine V.z3 ?_
  iterate 3 refine V.z7 ?_
  refine V.z3 ?_
  refine V.ah ?_
  refine Wt rfl rfl ?_
  refine zu2 ?_
  refine Wq ?_
  refine bj rfl rfl ?_ ?_
  ·rw[bn,if_pos hb];rfl
  rw[bn,if_pos hb];rfl
 have h2:¬(v.hand.length:Int)≤xat x 1:=oF hg2
 refine V.z3 ?_
 refine V.z5 ?_
 iterate 3 refine V.z3 ?_
 refine V.bZ 48 rfl (fun hg3=>?_) (fun hg3=>?_)
 ·have h3:xat x 2<0:=oT hg3
  have hb:cf v x:=.inr (.inr (.inl h3))
  iterate 3 refine V.z7 ?_
  refine V.z3 ?_
  refine V.ah ?_
  refine Wt rfl rfl ?_
  refine zu2 ?_
  refine Wq ?_
  refine bj rfl rfl ?_ ?_
  ·rw[bn,if_pos hb];rfl
  rw[bn,if_pos hb];rfl
 have h3:¬xat x 2<0:=oF hg3
 refine V.z3 ?_
 refine V.z5 ?_
 iterate 2 refine V.z3 ?_
 refine V.ah ?_
 refine Wi rfl (fun hi2=>?_) (fun hi2=>?_)
 ·have h4:4≤xat x 2:=oT hi2
  have hb:cf v x:=.inr (.inr (.inr (by omega)))
  refine zu2 ?_
  refine Wq ?_
  refine bj rfl rfl ?_ ?_
  ·rw[bn,if_pos hb];rfl
  rw[bn,if_pos hb];rfl
 have h4:¬4≤xat x 2:=oF hi2
 have hb:¬cf v x:=by rintro(h|h|h|h)<;>omega
 refine Wj ?_
 refine zu3 ?_
 refine Ws ?_
 refine zp2 ?_
 refine cX 56 rfl (by decide) ?_
 refine z1 ?_
 refine Wv tG rfl rfl rfl (by omega) (iN af 1 (fun _=>rfl) 0 (by(simp only[dnL]at *;omega))) ?_
 refine zy3 ?_
 refine Wb 61 rfl (fun hg5=>?_) (fun hg5=>?_)
 ·have h6:xat x 3<1:=oT hg5
  have hq:xat x 3<1∨4294967295<xat x 3:=.inl h6
  iterate 4 refine z6 ?_
  refine zs2 ?_
  refine Wt rfl rfl ?_
  refine zu2 ?_
  refine Wq ?_
  refine bj rfl rfl ?_ ?_
  ·rw[bn,if_neg hb,if_pos hq];rfl
  rw[bn,if_neg hb,if_pos hq];rfl
 have h6:¬xat x 3<1:=oF hg5
 refine z1 ?_
 refine Wv tG rfl rfl rfl (by omega) (iN af 1 (fun _=>rfl) 0 (by(simp only[dnL]at *;omega))) ?_
 refine zs4 ?_
 refine Wi rfl (fun hi3=>?_) (fun hi3=>?_)
 ·have h7:4294967296≤xat x 3:=oT hi3
  have hq:xat x 3<1∨4294967295<xat x 3:=.inr (by omega)
  refine zu2 ?_
  refine Wq ?_
  refine bj rfl rfl ?_ ?_
  ·rw[bn,if_neg hb,if_pos hq];rfl
  rw[bn,if_neg hb,if_pos hq];rfl
 have h7:¬4294967296≤xat x 3:=oF hi3
 have hq:¬(xat x 3<1∨4294967295<xat x 3):=by omega
 refine Wj ?_
 refine Ws ?_
 refine zp5 ?_
 refine zs1 ?_
 refine Wi rfl (fun hi4=>?_) (fun hi4=>?_)
 ·have h5:16≤(v.req.length:Int):=oT hi4
  refine zu2 ?_
  refine Wq ?_
  refine bj rfl rfl ?_ ?_
  ·rw[bn,if_neg hb,if_neg hq,if_pos h5];rfl
  rw[bn,if_neg hb,if_neg hq,if_pos h5];rfl
 have h5:¬16≤(v.req.length:Int):=oF hi4
 refine Wj ?_
 refine Ws ?_
 refine zu2 ?_
 refine Wf rfl (by decide) ?_
 refine Wj ?_
 refine Ws ?_
 refine zp5 ?_
 refine z1 ?_
 refine Wb 92 rfl (fun hg6=>?_) (fun hg6=>?_)
 ·have h8:v.free=0:=beq_iff_eq.1 hg6
  have hw:v.free=0∨v.next=4611686018427387904:=.inl h8
  iterate 5 refine z6 ?_
  refine zs1 ?_
  refine Wt rfl rfl ?_
  refine zu2 ?_
  refine Wq ?_
  refine bj rfl rfl ?_ ?_
  ·rw[bn,if_neg hb,if_neg hq,if_neg h5,if_pos hw];rfl
  rw[bn,if_neg hb,if_neg hq,if_neg h5,if_pos hw];rfl
 have h8:¬v.free=0:=beq_eq_false_iff_ne.1 hg6
 refine zy5 ?_
 refine zs1 ?_
 refine Wi rfl (fun hi6=>?_) (fun hi6=>?_)
 ·have h9:v.next=4611686018427387904:=beq_iff_eq.1 hi6
  have hw:v.free=0∨v.next=4611686018427387904:=.inr h9
  refine zu2 ?_
  refine Wq ?_
  refine bj rfl rfl ?_ ?_
  ·rw[bn,if_neg hb,if_neg hq,if_neg h5,if_pos hw];rfl
  rw[bn,if_neg hb,if_neg hq,if_neg h5,if_pos hw];rfl
 have h9:¬v.next=4611686018427387904:=beq_eq_false_iff_ne.1 hi6
 have hw:¬(v.free=0∨v.next=4611686018427387904):=by rintro(h|h)<;>contradiction
 refine Wj ?_
 refine Ws ?_
 refine V.ai [0,0,0,0,0,0,4,0,7,0,7] [0,1,2,3,4,5,6,7,8,9,10] mG rfl (by kernel_rfl) ?_
 refine V.z3 ?_
 refine V.Xi tG rfl rfl rfl rfl (fun _=>rfl) (by omega) (iN af 1 (fun _=>rfl) 0 (by(simp only[dnL]at *;omega))) ?_
 iterate 4 refine V.z3 ?_
 refine V.gu 0 rfl rfl rfl rfl rfl (fun H2 h2=>ak (lO tG rfl) rfl rfl h2 rfl) ?_
 refine V.z3 ?_
 refine V.lM 1 tG rfl rfl rfl rfl rfl trivial rfl ?_
 refine V.z3 ?_
 refine V.lM 1 tG rfl rfl rfl rfl rfl trivial rfl ?_
 refine V.ah ?_
 refine Ws ?_
 refine V.ai [0,0,0,0,1,0,1,0,0,0,0,3] [0,1,2,3,4,5,6,7,8,9,10,11] mG rfl (by kernel_rfl) ?_
 iterate 4 refine V.z3 ?_
 refine V.z5 ?_
 refine V.Xc rfl rfl rfl rfl (fun _=>dC rfl Tryz.func328 rfl rfl ((rq _ (by omega)) _)) ?_
 refine V.z5 ?_
 refine V.z3 ?_
 refine V.Xa 115 rfl ((show PV.seq 1 _ .clip=.seq (List.length [(⟨k,xat x 0,xat x 1,xat x 2,xat x 3,v.next⟩:fZ)]) (List.flatMap ez [(⟨k,xat x 0,xat x 1,xat x 2,xat x 3,v.next⟩:fZ)]) .clip from rfl)) ?_
 refine V.cI rfl rfl rfl rfl (fun _=>db (lO tG rfl) rfl (lO tG rfl) (lO tG rfl) rfl rfl (by exact⟨_,rfl⟩) (by exact⟨rfl,rfl,ag _ 6 (fun _=>rfl) _,aB _ (fun _=>rfl) _⟩) (by exact ag _ 6 (fun _=>rfl) _) (by((simp_all;omega))) (by((simp_all;omega))) (by exact gV (bW (fun x=>by simp) _) (bW (fun x=>by simp) _))) ?_
 refine V.Xa 116 rfl (aM ez) ?_
 iterate 2 refine V.z3 ?_
 refine V.aZ tG rfl rfl rfl rfl rfl trivial ?_
 refine V.ah ?_
 refine zp5 ?_
 refine zs3 ?_
 refine zp5 ?_
 refine zs3 ?_
 refine zp3 ?_
 refine Wa 135 rfl (bsL af [_] rfl rfl) ?_
 refine zc rfl Tryz.func144 ((jy [v.next]) _) ?_
 refine zs4 ?_
 refine Wq ?_
 refine bj rfl rfl ?_ ?_
 ·rw[bn,if_neg hb,if_neg hq,if_neg h5,if_neg hw];rfl
 rw[bn,if_neg hb,if_neg hq,if_neg h5,if_neg hw];rfl
def rkK:List fg:=[.s [47,77,79,68],.s [42,47,77,79,68],.s [42,47],.s [85,77,42],.s [77,42],.s [85,77,47,77,79,68],.s [83,77,47,82,69,77],.s [70,77,47,77,79,68],.s [83,62,68],.s [87,73,84,72,73,78]]
def rkV:List PV:=[bb 2 178 [.row [fnP 187 mg]],bb 3 178 [.row [fnP 188 Bd]],bb 3 178 [.row [fnP 189 H7]],bb 2 178 [.row [fnP 190 []]],bb 2 178 [.row [fnP 192 []]],bb 3 178 [.row [fnP 193 mg]],bb 3 178 [.row [fnP 195 mg]],bb 3 178 [.row [fnP 197 mg]],bb 1 178 [.row [fnP 198 []]],bb 3 178 [.row [fnP 200 []]]]
theorem NE:aQ (.smap rkK rkV):=by
 unfold aQ rkV
 simp
theorem gU:ab Tryz.prog 145 [] (.smap rkK rkV):=by
 refine pW tG (rs:=[.tmp 0]) Tryz.func145 rfl rfl rfl (by simp;done) (by exact NE) (fun B=>?_)
 refine zu1 ?_
 refine zp2 ?_
 refine bJ 1 _ rfl rfl rfl ?_
 refine Wn ?_
 refine zp2 ?_
 refine bJ 2 _ rfl rfl rfl ?_
 refine z0 ?_
 refine Wd rfl rfl (dg rfl) ?_
 refine z1 ?_
 refine zc rfl Tryz.func139 ((gJ 2 187 mg (by simp)) _) ?_
 refine Wd rfl rfl (dI (e:=155) (key:=.s [47,77,79,68]) (by kernel_rfl) rfl rfl rfl rfl (by kernel_rfl)) ?_
 refine z1 ?_
 refine zc rfl Tryz.func139 ((gJ 3 188 Bd (by simp)) _) ?_
 refine Wd rfl rfl (dI (e:=155) (key:=.s [42,47,77,79,68]) (by kernel_rfl) rfl rfl rfl rfl (by kernel_rfl)) ?_
 refine z1 ?_
 refine zc rfl Tryz.func139 ((gJ 3 189 H7 (by simp)) _) ?_
 refine Wd rfl rfl (dI (e:=155) (key:=.s [42,47]) (by kernel_rfl) rfl rfl rfl rfl (by kernel_rfl)) ?_
 refine zc rfl Tryz.func139 ((gJ 2 190 [] (by simp)) _) ?_
 refine Wd rfl rfl (dI (e:=155) (key:=.s [85,77,42]) (by kernel_rfl) rfl rfl rfl rfl (by kernel_rfl)) ?_
 refine zc rfl Tryz.func139 ((gJ 2 192 [] (by simp)) _) ?_
 refine Wd rfl rfl (dI (e:=155) (key:=.s [77,42]) (by kernel_rfl) rfl rfl rfl rfl (by kernel_rfl)) ?_
 refine z1 ?_
 refine zc rfl Tryz.func139 ((gJ 3 193 mg (by simp)) _) ?_
 refine Wd rfl rfl (dI (e:=155) (key:=.s [85,77,47,77,79,68]) (by kernel_rfl) rfl rfl rfl rfl (by kernel_rfl)) ?_
 refine z1 ?_
 refine zc rfl Tryz.func139 ((gJ 3 195 mg (by simp)) _) ?_
 refine Wd rfl rfl (dI (e:=155) (key:=.s [83,77,47,82,69,77]) (by kernel_rfl) rfl rfl rfl rfl (by kernel_rfl)) ?_
 refine z1 ?_
 refine zc rfl Tryz.func139 ((gJ 3 197 mg (by simp)) _) ?_
 refine Wd rfl rfl (dI (e:=155) (key:=.s [70,77,47,77,79,68]) (by kernel_rfl) rfl rfl rfl rfl (by kernel_rfl)) ?_
 refine zc rfl Tryz.func139 ((gJ 1 198 [] (by simp)) _) ?_
 refine Wd rfl rfl (dI (e:=155) (key:=.s [83,62,68]) (by kernel_rfl) rfl rfl rfl rfl (by kernel_rfl)) ?_
 refine zc rfl Tryz.func139 ((gJ 3 200 [] (by simp)) _) ?_
 refine Wd rfl rfl (dI (e:=155) (key:=.s [87,73,84,72,73,78]) (by kernel_rfl) rfl rfl rfl rfl (by kernel_rfl)) ?_
 refine z1 ?_
 refine ee 20 _ rfl rfl rfl ?_
 refine zs1 ?_
 refine zR ?_
 rfl
def meK:List fg:=[.s [64],.s [67,64],.s [33],.s [67,33],.s [43,33],.s [50,64],.s [50,33],.s [70,73,76,76],.s [77,79,86,69],.s [67,79,85,78,84]]
def meV:List PV:=[bb 1 305 [.row [fnP 45 []]],bb 1 305 [.row [fnP 203 []]],bb 2 306 [.row [fnP 205 []]],bb 2 306 [.row [fnP 207 []]],bb 2 306 [.row [fnP 209 []]],bb 1 210 [],bb 3 306 [.row [fnP 211 []]],bb 3 306 [.row [fnP 212 []]],bb 3 306 [.row [fnP 214 []]],bb 1 216 []]
theorem M2:aQ (.smap meK meV):=by
 unfold aQ meV
 simp
theorem gi:ab Tryz.prog 146 [] (.smap meK meV):=by
 refine pW tG (rs:=[.tmp 0]) Tryz.func146 rfl rfl rfl (by simp;done) (by exact M2) (fun B=>?_)
 refine zu1 ?_
 refine z8 ?_
 refine Wd rfl rfl (dg rfl) ?_
 refine zc rfl Tryz.func202 ((px 45 [] (by simp)) _) ?_
 refine Wd rfl rfl (dI (e:=155) (key:=.s [64]) (by kernel_rfl) rfl rfl rfl rfl (by kernel_rfl)) ?_
 refine zc rfl Tryz.func202 ((px 203 [] (by simp)) _) ?_
 refine Wd rfl rfl (dI (e:=155) (key:=.s [67,64]) (by kernel_rfl) rfl rfl rfl rfl (by kernel_rfl)) ?_
 refine zc rfl Tryz.func204 ((jv 2 205 [] (by simp)) _) ?_
 refine Wd rfl rfl (dI (e:=155) (key:=.s [33]) (by kernel_rfl) rfl rfl rfl rfl (by kernel_rfl)) ?_
 refine zc rfl Tryz.func204 ((jv 2 207 [] (by simp)) _) ?_
 refine Wd rfl rfl (dI (e:=155) (key:=.s [67,33]) (by kernel_rfl) rfl rfl rfl rfl (by kernel_rfl)) ?_
 refine zc rfl Tryz.func204 ((jv 2 209 [] (by simp)) _) ?_
 refine Wd rfl rfl (dI (e:=155) (key:=.s [43,33]) (by kernel_rfl) rfl rfl rfl rfl (by kernel_rfl)) ?_
 refine z1 ?_
 refine Wd rfl rfl (dI (e:=155) (key:=.s [50,64]) (by kernel_rfl) rfl rfl rfl rfl (by kernel_rfl)) ?_
 refine zc rfl Tryz.func204 ((jv 3 211 [] (by simp)) _) ?_
 refine Wd rfl rfl (dI (e:=155) (key:=.s [50,33]) (by kernel_rfl) rfl rfl rfl rfl (by kernel_rfl)) ?_
 refine zc rfl Tryz.func204 ((jv 3 212 [] (by simp)) _) ?_
 refine Wd rfl rfl (dI (e:=155) (key:=.s [70,73,76,76]) (by kernel_rfl) rfl rfl rfl rfl (by kernel_rfl)) ?_
 refine zc rfl Tryz.func204 ((jv 3 214 [] (by simp)) _) ?_
 refine Wd rfl rfl (dI (e:=155) (key:=.s [77,79,86,69]) (by kernel_rfl) rfl rfl rfl rfl (by kernel_rfl)) ?_
 refine z1 ?_
 refine Wd rfl rfl (dI (e:=155) (key:=.s [67,79,85,78,84]) (by kernel_rfl) rfl rfl rfl rfl (by kernel_rfl)) ?_
 refine z1 ?_
 refine ee 12 _ rfl rfl rfl ?_
 refine zs1 ?_
 refine zR ?_
 rfl
def spK:List fg:=[.s [72,69,82,69],.s [65,76,76,79,84],.s [44],.s [67,44],.s [65,76,73,71,78],.s [66,65,83,69],.s [83,84,65,84,69],.s [84,82,85,69],.s [70,65,76,83,69],.s [66,76],.s [68,69,67,73,77,65,76],.s [72,69,88]]
def spV:List PV:=[bb 0 309 [.row [fnP 223 []]],bb 1 310 [.row [fnP 225 []]],bb 1 310 [.row [fnP 228 []]],bb 1 310 [.row [fnP 230 []]],bb 0 310 [.row [fnP 232 []]],bb 0 309 [.row [fnP 222 [.row [i64 (0)]]]],bb 0 309 [.row [fnP 222 [.row [i64 (8)]]]],bb 0 309 [.row [fnP 222 [.row [i64 (-1)]]]],bb 0 309 [.row [fnP 222 [.row [i64 (0)]]]],bb 0 309 [.row [fnP 222 [.row [i64 (32)]]]],bb 0 218 [.row [i64 10]],bb 0 218 [.row [i64 16]]]
theorem M3:aQ (.smap spK spV):=by
 unfold aQ spV
 simp
theorem iP:ab Tryz.prog 147 [] (.smap spK spV):=by
 refine pW tG (rs:=[.tmp 0]) Tryz.func147 rfl rfl rfl (by simp;done) (by exact M3) (fun B=>?_)
 refine zu1 ?_
 refine zu1 ?_
 refine zu1 ?_
 refine z8 ?_
 refine Wd rfl rfl (dg rfl) ?_
 refine zc rfl Tryz.func221 ((nK 223 [] (by simp)) _) ?_
 refine Wd rfl rfl (dI (e:=155) (key:=.s [72,69,82,69]) (by kernel_rfl) rfl rfl rfl rfl (by kernel_rfl)) ?_
 refine zc rfl Tryz.func224 ((s6 1 225 [] (by simp)) _) ?_
 refine Wd rfl rfl (dI (e:=155) (key:=.s [65,76,76,79,84]) (by kernel_rfl) rfl rfl rfl rfl (by kernel_rfl)) ?_
 refine zc rfl Tryz.func224 ((s6 1 228 [] (by simp)) _) ?_
 refine Wd rfl rfl (dI (e:=155) (key:=.s [44]) (by kernel_rfl) rfl rfl rfl rfl (by kernel_rfl)) ?_
 refine zc rfl Tryz.func224 ((s6 1 230 [] (by simp)) _) ?_
 refine Wd rfl rfl (dI (e:=155) (key:=.s [67,44]) (by kernel_rfl) rfl rfl rfl rfl (by kernel_rfl)) ?_
 refine zc rfl Tryz.func224 ((s6 0 232 [] (by simp)) _) ?_
 refine Wd rfl rfl (dI (e:=155) (key:=.s [65,76,73,71,78]) (by kernel_rfl) rfl rfl rfl rfl (by kernel_rfl)) ?_
 refine z1 ?_
 refine Wc rfl rfl (dq rfl rfl Tryz.func220 rfl rfl (lJ (0) _)) ?_
 refine Wd rfl rfl (dI (e:=155) (key:=.s [66,65,83,69]) (by kernel_rfl) rfl rfl rfl rfl (by kernel_rfl)) ?_
 refine z1 ?_
 refine Wc rfl rfl (dq rfl rfl Tryz.func220 rfl rfl (lJ (8) _)) ?_
 refine Wd rfl rfl (dI (e:=155) (key:=.s [83,84,65,84,69]) (by kernel_rfl) rfl rfl rfl rfl (by kernel_rfl)) ?_
 refine z1 ?_
 refine Wc rfl rfl (dq rfl rfl Tryz.func220 rfl rfl (lJ (-1) _)) ?_
 refine Wd rfl rfl (dI (e:=155) (key:=.s [84,82,85,69]) (by kernel_rfl) rfl rfl rfl rfl (by kernel_rfl)) ?_
 refine z1 ?_
 refine Wc rfl rfl (dq rfl rfl Tryz.func220 rfl rfl (lJ (0) _)) ?_
 refine Wd rfl rfl (dI (e:=155) (key:=.s [70,65,76,83,69]) (by kernel_rfl) rfl rfl rfl rfl (by kernel_rfl)) ?_
 refine z1 ?_
 refine Wc rfl rfl (dq rfl rfl Tryz.func220 rfl rfl (lJ (32) _)) ?_
 refine Wd rfl rfl (dI (e:=155) (key:=.s [66,76]) (by kernel_rfl) rfl rfl rfl rfl (by kernel_rfl)) ?_
 refine z1 ?_
 refine Wc rfl rfl (dq rfl rfl Tryz.func217 rfl rfl (Es 10 _)) ?_
 refine Wd rfl rfl (dI (e:=155) (key:=.s [68,69,67,73,77,65,76]) (by kernel_rfl) rfl rfl rfl rfl (by kernel_rfl)) ?_
 refine z1 ?_
 refine Wc rfl rfl (dq rfl rfl Tryz.func217 rfl rfl (Es 16 _)) ?_
 refine Wd rfl rfl (dI (e:=155) (key:=.s [72,69,88]) (by kernel_rfl) rfl rfl rfl rfl (by kernel_rfl)) ?_
 refine z1 ?_
 refine ee 23 _ rfl rfl rfl ?_
 refine zs1 ?_
 refine zR ?_
 rfl
def prK:List fg:=[.s [69,77,73,84],.s [67,82],.s [83,80,65,67,69],.s [83,80,65,67,69,83],.s [84,89,80,69],.s [46],.s [85,46]]
def prV:List PV:=[bb 1 312 [.row [fnP 240 []]],bb 0 312 [.row [fnP 239 [.row [str [10]]]]],bb 0 312 [.row [fnP 239 [.row [str [32]]]]],bb 1 312 [.row [fnP 241 []]],bb 2 312 [.row [fnP 243 []]],bb 1 312 [.row [fnP 236 [.row [fnP 244 []]]]],bb 1 312 [.row [fnP 236 [.row [fnP 245 []]]]]]
theorem LP:aQ (.smap prK prV):=by
 unfold aQ prV
 simp
theorem iK:ab Tryz.prog 148 [] (.smap prK prV):=by
 refine pW tG (rs:=[.tmp 0]) Tryz.func148 rfl rfl rfl (by simp;done) (by exact LP) (fun B=>?_)
 refine zu1 ?_
 refine zu1 ?_
 refine zu1 ?_
 refine z8 ?_
 refine Wd rfl rfl (dg rfl) ?_
 refine zc rfl Tryz.func235 ((qz 1 240 [] (by simp)) _) ?_
 refine Wd rfl rfl (dI (e:=155) (key:=.s [69,77,73,84]) (by kernel_rfl) rfl rfl rfl rfl (by kernel_rfl)) ?_
 refine z1 ?_
 refine Wc rfl rfl (dq rfl rfl Tryz.func238 rfl rfl (DE [10] _)) ?_
 refine Wd rfl rfl (dI (e:=155) (key:=.s [67,82]) (by kernel_rfl) rfl rfl rfl rfl (by kernel_rfl)) ?_
 refine z1 ?_
 refine Wc rfl rfl (dq rfl rfl Tryz.func238 rfl rfl (DE [32] _)) ?_
 refine Wd rfl rfl (dI (e:=155) (key:=.s [83,80,65,67,69]) (by kernel_rfl) rfl rfl rfl rfl (by kernel_rfl)) ?_
 refine zc rfl Tryz.func235 ((qz 1 241 [] (by simp)) _) ?_
 refine Wd rfl rfl (dI (e:=155) (key:=.s [83,80,65,67,69,83]) (by kernel_rfl) rfl rfl rfl rfl (by kernel_rfl)) ?_
 refine zc rfl Tryz.func235 ((qz 2 243 [] (by simp)) _) ?_
 refine Wd rfl rfl (dI (e:=155) (key:=.s [84,89,80,69]) (by kernel_rfl) rfl rfl rfl rfl (by kernel_rfl)) ?_
 refine z1 ?_
 refine Wc rfl rfl (dq rfl rfl Tryz.func234 rfl rfl (wE 244 [] (by simp) _)) ?_
 refine Wd rfl rfl (dI (e:=155) (key:=.s [46]) (by kernel_rfl) rfl rfl rfl rfl (by kernel_rfl)) ?_
 refine z1 ?_
 refine Wc rfl rfl (dq rfl rfl Tryz.func234 rfl rfl (wE 245 [] (by simp) _)) ?_
 refine Wd rfl rfl (dI (e:=155) (key:=.s [85,46]) (by kernel_rfl) rfl rfl rfl rfl (by kernel_rfl)) ?_
 refine z1 ?_
 refine ee 15 _ rfl rfl rfl ?_
 refine zs1 ?_
 refine zR ?_
 rfl
def piK:List fg:=[.s [60,35],.s [35],.s [35,83],.s [72,79,76,68],.s [83,73,71,78],.s [35,62]]
def piV:List PV:=[bb 0 248 [],bb 2 250 [],bb 2 252 [],bb 1 247 [.row [fnP 254 []]],bb 1 247 [.row [fnP 255 []]],bb 2 256 []]
theorem Ms:aQ (.smap piK piV):=by
 unfold aQ piV
 simp
theorem ke:ab Tryz.prog 149 [] (.smap piK piV):=by
 refine pW tG (rs:=[.tmp 0]) Tryz.func149 rfl rfl rfl (by simp;done) (by exact Ms) (fun B=>?_)
 refine zu1 ?_
 refine zu1 ?_
 refine z8 ?_
 refine Wd rfl rfl (dg rfl) ?_
 refine z1 ?_
 refine Wd rfl rfl (dI (e:=155) (key:=.s [60,35]) (by kernel_rfl) rfl rfl rfl rfl (by kernel_rfl)) ?_
 refine z1 ?_
 refine Wd rfl rfl (dI (e:=155) (key:=.s [35]) (by kernel_rfl) rfl rfl rfl rfl (by kernel_rfl)) ?_
 refine z1 ?_
 refine Wd rfl rfl (dI (e:=155) (key:=.s [35,83]) (by kernel_rfl) rfl rfl rfl rfl (by kernel_rfl)) ?_
 refine z1 ?_
 refine Wc rfl rfl (dq rfl rfl Tryz.func246 rfl rfl (Kd 254 [] (by simp) _)) ?_
 refine Wd rfl rfl (dI (e:=155) (key:=.s [72,79,76,68]) (by kernel_rfl) rfl rfl rfl rfl (by kernel_rfl)) ?_
 refine z1 ?_
 refine Wc rfl rfl (dq rfl rfl Tryz.func246 rfl rfl (Kd 255 [] (by simp) _)) ?_
 refine Wd rfl rfl (dI (e:=155) (key:=.s [83,73,71,78]) (by kernel_rfl) rfl rfl rfl rfl (by kernel_rfl)) ?_
 refine z1 ?_
 refine Wd rfl rfl (dI (e:=155) (key:=.s [35,62]) (by kernel_rfl) rfl rfl rfl rfl (by kernel_rfl)) ?_
 refine z1 ?_
 refine ee 11 _ rfl rfl rfl ?_
 refine zs1 ?_
 refine zR ?_
 rfl
def otK:List fg:=[.s [62,66,79,68,89],.s [65,66,79,82,84],.s [80,79,83,84],.s [65,70,84,69,82],.s [69,86,69,82,89],.s [67,65,78,67,69,76],.s [65,82,71],.s [83,69,76,70],.s [78,79,87],.s [83,69,84,45,83,84,65,84,69],.s [65,84,45,83,84,65,84,69],.s [71,69,84,45,83,84,65,84,69]]
def otV:List PV:=[bb 1 259 [],bb 0 178 [.row [fnP 260 []]],bb 3 327 [.row [i64 1],.row [i64 3]],bb 4 327 [.row [i64 2],.row [i64 4]],bb 4 327 [.row [i64 3],.row [i64 4]],bb 1 327 [.row [i64 4],.row [i64 1]],bb 0 309 [.row [fnP 262 []]],bb 0 309 [.row [fnP 263 []]],bb 0 309 [.row [fnP 264 []]],bb 2 265 [],bb 3 267 [],bb 1 305 [.row [fnP 45 []]]]
theorem Mc:aQ (.smap otK otV):=by
 unfold aQ otV
 simp
theorem zL:ab Tryz.prog 150 [] (.smap otK otV):=by
 refine pW tG (rs:=[.tmp 0]) Tryz.func150 rfl rfl rfl (by simp;done) (by exact Mc) (fun B=>?_)
 refine zu1 ?_
 refine z8 ?_
 refine Wd rfl rfl (dg rfl) ?_
 refine z1 ?_
 refine Wd rfl rfl (dI (e:=155) (key:=.s [62,66,79,68,89]) (by kernel_rfl) rfl rfl rfl rfl (by kernel_rfl)) ?_
 refine zc rfl Tryz.func139 ((gJ 0 260 [] (by simp)) _) ?_
 refine Wd rfl rfl (dI (e:=155) (key:=.s [65,66,79,82,84]) (by kernel_rfl) rfl rfl rfl rfl (by kernel_rfl)) ?_
 refine zc rfl Tryz.func261 ((Km) _) ?_
 refine Wd rfl rfl (dI (e:=155) (key:=.s [80,79,83,84]) (by kernel_rfl) rfl rfl rfl rfl (by kernel_rfl)) ?_
 refine zc rfl Tryz.func261 ((La) _) ?_
 refine Wd rfl rfl (dI (e:=155) (key:=.s [65,70,84,69,82]) (by kernel_rfl) rfl rfl rfl rfl (by kernel_rfl)) ?_
 refine zc rfl Tryz.func261 ((Lk) _) ?_
 refine Wd rfl rfl (dI (e:=155) (key:=.s [69,86,69,82,89]) (by kernel_rfl) rfl rfl rfl rfl (by kernel_rfl)) ?_
 refine zc rfl Tryz.func261 ((Jo) _) ?_
 refine Wd rfl rfl (dI (e:=155) (key:=.s [67,65,78,67,69,76]) (by kernel_rfl) rfl rfl rfl rfl (by kernel_rfl)) ?_
 refine zc rfl Tryz.func221 ((nK 262 [] (by simp)) _) ?_
 refine Wd rfl rfl (dI (e:=155) (key:=.s [65,82,71]) (by kernel_rfl) rfl rfl rfl rfl (by kernel_rfl)) ?_
 refine zc rfl Tryz.func221 ((nK 263 [] (by simp)) _) ?_
 refine Wd rfl rfl (dI (e:=155) (key:=.s [83,69,76,70]) (by kernel_rfl) rfl rfl rfl rfl (by kernel_rfl)) ?_
 refine zc rfl Tryz.func221 ((nK 264 [] (by simp)) _) ?_
 refine Wd rfl rfl (dI (e:=155) (key:=.s [78,79,87]) (by kernel_rfl) rfl rfl rfl rfl (by kernel_rfl)) ?_
 refine z1 ?_
 refine Wd rfl rfl (dI (e:=155) (key:=.s [83,69,84,45,83,84,65,84,69]) (by kernel_rfl) rfl rfl rfl rfl (by kernel_rfl)) ?_
 refine z1 ?_
 refine Wd rfl rfl (dI (e:=155) (key:=.s [65,84,45,83,84,65,84,69]) (by kernel_rfl) rfl rfl rfl rfl (by kernel_rfl)) ?_
 refine zc rfl Tryz.func202 ((px 45 [] (by simp)) _) ?_
 refine Wd rfl rfl (dI (e:=155) (key:=.s [71,69,84,45,83,84,65,84,69]) (by kernel_rfl) rfl rfl rfl rfl (by kernel_rfl)) ?_
 refine z1 ?_
 refine ee 14 _ rfl rfl rfl ?_
 refine zs1 ?_
 refine zR ?_
 rfl
abbrev dz:PV:=.agg [i64 0,.val .nilFunc]
theorem ib(n:Int)(name:Str)(k:Int)(f:FuncId)(cap:List PV)(hn:72<n)(hc:aL cap)(h0:ii rkK rkV (.s name) dz=(bb k f cap,true)):ab Tryz.prog 100 [i64 n,str name] (bb k f cap):=by
 refine pW tG (rs:=[.cell 4 155]) Tryz.func100 rfl rfl rfl (by simp[hc]) (by simp[hc]) (fun B=>?_)
 refine zu2 ?_
 refine Ws ?_
 refine Wl ?_
 refine zu3 ?_
 refine Wf rfl (by exact decide_eq_false (by omega)) ?_
 refine zu3 ?_
 refine Wf rfl (by exact decide_eq_false (by omega)) ?_
 refine Wj ?_
 refine Ws ?_
 refine z8 ?_
 refine zc rfl Tryz.func145 ((gU) _) ?_
 refine zc rfl Tryz.func146 ((gi) _) ?_
 refine zc rfl Tryz.func147 ((iP) _) ?_
 refine zc rfl Tryz.func148 ((iK) _) ?_
 refine zc rfl Tryz.func149 ((ke) _) ?_
 refine zs2 ?_
 refine Wl ?_
 refine ia 7 ?_
 show W _ _ _ _ _ _ _
 refine zu1 ?_
 refine Ws ?_
 refine Wt rfl (by rfl) ?_
 refine Wj ?_
 refine Ws ?_
 refine Wl ?_
 refine z8 ?_
 refine z2 ?_ (q:=(by decide))
 refine zs1 ?_
 refine zp2 ?_
 refine Wd rfl rfl (bi (b:=true) (e:=155) (key:=.s name) (by kernel_rfl) (lO tG rfl) (by kernel_rfl) rfl rfl rfl rfl (by kernel_rfl) ((by exact h0))) ?_
 refine zy5 ?_
 refine zs1 ?_
 refine zu1 ?_
 refine Wt rfl (by rfl) ?_
 refine zu2 ?_
 refine zR ?_
 rfl
theorem hE(n:Int)(name:Str)(k:Int)(f:FuncId)(cap:List PV)(hn:72<n)(hc:aL cap)(h0:ii rkK rkV (.s name) dz=(dz,false))(h1:ii meK meV (.s name) dz=(bb k f cap,true)):ab Tryz.prog 100 [i64 n,str name] (bb k f cap):=by
 refine pW tG (rs:=[.cell 4 155]) Tryz.func100 rfl rfl rfl (by simp[hc]) (by simp[hc]) (fun B=>?_)
 refine zu2 ?_
 refine Ws ?_
 refine Wl ?_
 refine zu3 ?_
 refine Wf rfl (by exact decide_eq_false (by omega)) ?_
 refine zu3 ?_
 refine Wf rfl (by exact decide_eq_false (by omega)) ?_
 refine Wj ?_
 refine Ws ?_
 refine z8 ?_
 refine zc rfl Tryz.func145 ((gU) _) ?_
 refine zc rfl Tryz.func146 ((gi) _) ?_
 refine zc rfl Tryz.func147 ((iP) _) ?_
 refine zc rfl Tryz.func148 ((iK) _) ?_
 refine zc rfl Tryz.func149 ((ke) _) ?_
 refine zs2 ?_
 refine Wl ?_
 refine ia 7 ?_
 show W _ _ _ _ _ _ _
 refine zu1 ?_
 refine Ws ?_
 refine Wt rfl (by rfl) ?_
 refine Wj ?_
 refine Ws ?_
 refine Wl ?_
 refine z8 ?_
 refine z2 ?_ (q:=(by decide))
 refine zs1 ?_
 refine zp2 ?_
 refine Wd rfl rfl (bi (b:=true) (e:=155) (key:=.s name) (by kernel_rfl) (lO tG rfl) (by kernel_rfl) rfl rfl rfl rfl (by kernel_rfl) ((by exact h0))) ?_
 refine zy5 ?_
 refine zs1 ?_
 refine zu1 ?_
 refine Wf rfl (by rfl) ?_
 refine Wj ?_
 refine aa rfl ?_
 refine z1 ?_
 refine Wa 36 rfl (show _=PV.val (.int .i64 1) from rfl) ?_
 refine zs1 ?_
 show W _ _ _ _ _ _ _
 refine zu1 ?_
 refine Ws ?_
 refine Wt rfl (by rfl) ?_
 refine Wj ?_
 refine Ws ?_
 refine Wl ?_
 refine z8 ?_
 refine z2 ?_ (q:=(by decide))
 refine zs1 ?_
 refine zp2 ?_
 refine Wd rfl rfl (bi (b:=true) (e:=155) (key:=.s name) (by kernel_rfl) (lO tG rfl) (by kernel_rfl) rfl rfl rfl rfl (by kernel_rfl) ((by exact h1))) ?_
 refine zy5 ?_
 refine zs1 ?_
 refine zu1 ?_
 refine Wt rfl (by rfl) ?_
 refine zu2 ?_
 refine zR ?_
 rfl
theorem fT(n:Int)(name:Str)(k:Int)(f:FuncId)(cap:List PV)(hn:72<n)(hc:aL cap)(h0:ii rkK rkV (.s name) dz=(dz,false))(h1:ii meK meV (.s name) dz=(dz,false))(h2:ii spK spV (.s name) dz=(bb k f cap,true)):ab Tryz.prog 100 [i64 n,str name] (bb k f cap):=by
 refine pW tG (rs:=[.cell 4 155]) Tryz.func100 rfl rfl rfl (by simp[hc]) (by simp[hc]) (fun B=>?_)
 refine zu2 ?_
 refine Ws ?_
 refine Wl ?_
 refine zu3 ?_
 refine Wf rfl (by exact decide_eq_false (by omega)) ?_
 refine zu3 ?_
 refine Wf rfl (by exact decide_eq_false (by omega)) ?_
 refine Wj ?_
 refine Ws ?_
 refine z8 ?_
 refine zc rfl Tryz.func145 ((gU) _) ?_
 refine zc rfl Tryz.func146 ((gi) _) ?_
 refine zc rfl Tryz.func147 ((iP) _) ?_
 refine zc rfl Tryz.func148 ((iK) _) ?_
 refine zc rfl Tryz.func149 ((ke) _) ?_
 refine zs2 ?_
 refine Wl ?_
 refine ia 7 ?_
 show W _ _ _ _ _ _ _
 refine zu1 ?_
 refine Ws ?_
 refine Wt rfl (by rfl) ?_
 refine Wj ?_
 refine Ws ?_
 refine Wl ?_
 refine z8 ?_
 refine z2 ?_ (q:=(by decide))
 refine zs1 ?_
 refine zp2 ?_
 refine Wd rfl rfl (bi (b:=true) (e:=155) (key:=.s name) (by kernel_rfl) (lO tG rfl) (by kernel_rfl) rfl rfl rfl rfl (by kernel_rfl) ((by exact h0))) ?_
 refine zy5 ?_
 refine zs1 ?_
 refine zu1 ?_
 refine Wf rfl (by rfl) ?_
 refine Wj ?_
 refine aa rfl ?_
 refine z1 ?_
 refine Wa 36 rfl (show _=PV.val (.int .i64 1) from rfl) ?_
 refine zs1 ?_
 show W _ _ _ _ _ _ _
 refine zu1 ?_
 refine Ws ?_
 refine Wt rfl (by rfl) ?_
 refine Wj ?_
 refine Ws ?_
 refine Wl ?_
 refine z8 ?_
 refine z2 ?_ (q:=(by decide))
 refine zs1 ?_
 refine zp2 ?_
 refine Wd rfl rfl (bi (b:=true) (e:=155) (key:=.s name) (by kernel_rfl) (lO tG rfl) (by kernel_rfl) rfl rfl rfl rfl (by kernel_rfl) ((by exact h1))) ?_
 refine zy5 ?_
 refine zs1 ?_
 refine zu1 ?_
 refine Wf rfl (by rfl) ?_
 refine Wj ?_
 refine aa rfl ?_
 refine z1 ?_
 refine Wa 36 rfl (show _=PV.val (.int .i64 2) from rfl) ?_
 refine zs1 ?_
 show W _ _ _ _ _ _ _
 refine zu1 ?_
 refine Ws ?_
 refine Wt rfl (by rfl) ?_
 refine Wj ?_
 refine Ws ?_
 refine Wl ?_
 refine z8 ?_
 refine z2 ?_ (q:=(by decide))
 refine zs1 ?_
 refine zp2 ?_
 refine Wd rfl rfl (bi (b:=true) (e:=155) (key:=.s name) (by kernel_rfl) (lO tG rfl) (by kernel_rfl) rfl rfl rfl rfl (by kernel_rfl) ((by exact h2))) ?_
 refine zy5 ?_
 refine zs1 ?_
 refine zu1 ?_
 refine Wt rfl (by rfl) ?_
 refine zu2 ?_
 refine zR ?_
 rfl
theorem kD(n:Int)(name:Str)(k:Int)(f:FuncId)(cap:List PV)(hn:72<n)(hc:aL cap)(h0:ii rkK rkV (.s name) dz=(dz,false))(h1:ii meK meV (.s name) dz=(dz,false))(h2:ii spK spV (.s name) dz=(dz,false))(h3:ii prK prV (.s name) dz=(bb k f cap,true)):ab Tryz.prog 100 [i64 n,str name] (bb k f cap):=by
 refine pW tG (rs:=[.cell 4 155]) Tryz.func100 rfl rfl rfl (by simp[hc]) (by simp[hc]) (fun B=>?_)
 refine zu2 ?_
 refine Ws ?_
 refine Wl ?_
 refine zu3 ?_
 refine Wf rfl (by exact decide_eq_false (by omega)) ?_
 refine zu3 ?_
 refine Wf rfl (by exact decide_eq_false (by omega)) ?_
 refine Wj ?_
 refine Ws ?_
 refine z8 ?_
 refine zc rfl Tryz.func145 ((gU) _) ?_
 refine zc rfl Tryz.func146 ((gi) _) ?_
 refine zc rfl Tryz.func147 ((iP) _) ?_
 refine zc rfl Tryz.func148 ((iK) _) ?_
 refine zc rfl Tryz.func149 ((ke) _) ?_
 refine zs2 ?_
 refine Wl ?_
 refine ia 7 ?_
 show W _ _ _ _ _ _ _
 refine zu1 ?_
 refine Ws ?_
 refine Wt rfl (by rfl) ?_
 refine Wj ?_
 refine Ws ?_
 refine Wl ?_
 refine z8 ?_
 refine z2 ?_ (q:=(by decide))
 refine zs1 ?_
 refine zp2 ?_
 refine Wd rfl rfl (bi (b:=true) (e:=155) (key:=.s name) (by kernel_rfl) (lO tG rfl) (by kernel_rfl) rfl rfl rfl rfl (by kernel_rfl) ((by exact h0))) ?_
 refine zy5 ?_
 refine zs1 ?_
 refine zu1 ?_
 refine Wf rfl (by rfl) ?_
 refine Wj ?_
 refine aa rfl ?_
 refine z1 ?_
 refine Wa 36 rfl (show _=PV.val (.int .i64 1) from rfl) ?_
 refine zs1 ?_
 show W _ _ _ _ _ _ _
 refine zu1 ?_
 refine Ws ?_
 refine Wt rfl (by rfl) ?_
 refine Wj ?_
 refine Ws ?_
 refine Wl ?_
 refine z8 ?_
 refine z2 ?_ (q:=(by decide))
 refine zs1 ?_
 refine zp2 ?_
 refine Wd rfl rfl (bi (b:=true) (e:=155) (key:=.s name) (by kernel_rfl) (lO tG rfl) (by kernel_rfl) rfl rfl rfl rfl (by kernel_rfl) ((by exact h1))) ?_
 refine zy5 ?_
 refine zs1 ?_
 refine zu1 ?_
 refine Wf rfl (by rfl) ?_
 refine Wj ?_
 refine aa rfl ?_
 refine z1 ?_
 refine Wa 36 rfl (show _=PV.val (.int .i64 2) from rfl) ?_
 refine zs1 ?_
 show W _ _ _ _ _ _ _
 refine zu1 ?_
 refine Ws ?_
 refine Wt rfl (by rfl) ?_
 refine Wj ?_
 refine Ws ?_
 refine Wl ?_
 refine z8 ?_
 refine z2 ?_ (q:=(by decide))
 refine zs1 ?_
 refine zp2 ?_
 refine Wd rfl rfl (bi (b:=true) (e:=155) (key:=.s name) (by kernel_rfl) (lO tG rfl) (by kernel_rfl) rfl rfl rfl rfl (by kernel_rfl) ((by exact h2))) ?_
 refine zy5 ?_
 refine zs1 ?_
 refine zu1 ?_
 refine Wf rfl (by rfl) ?_
 refine Wj ?_
 refine aa rfl ?_
 refine z1 ?_
 refine Wa 36 rfl (show _=PV.val (.int .i64 3) from rfl) ?_
 refine zs1 ?_
 show W _ _ _ _ _ _ _
 refine zu1 ?_
 refine Ws ?_
 refine Wt rfl (by rfl) ?_
 refine Wj ?_
 refine Ws ?_
 refine Wl ?_
 refine z8 ?_
 refine z2 ?_ (q:=(by decide))
 refine zs1 ?_
 refine zp2 ?_
 refine Wd rfl rfl (bi (b:=true) (e:=155) (key:=.s name) (by kernel_rfl) (lO tG rfl) (by kernel_rfl) rfl rfl rfl rfl (by kernel_rfl) ((by exact h3))) ?_
 refine zy5 ?_
 refine zs1 ?_
 refine zu1 ?_
 refine Wt rfl (by rfl) ?_
 refine zu2 ?_
 refine zR ?_
 rfl
theorem me(n:Int)(name:Str)(k:Int)(f:FuncId)(cap:List PV)(hn:72<n)(hc:aL cap)(h0:ii rkK rkV (.s name) dz=(dz,false))(h1:ii meK meV (.s name) dz=(dz,false))(h2:ii spK spV (.s name) dz=(dz,false))(h3:ii prK prV (.s name) dz=(dz,false))(h4:ii piK piV (.s name) dz=(bb k f cap,true)):ab Tryz.prog 100 [i64 n,str name] (bb k f cap):=by
 refine pW tG (rs:=[.cell 4 155]) Tryz.func100 rfl rfl rfl (by simp[hc]) (by simp[hc]) (fun B=>?_)
 refine zu2 ?_
 refine Ws ?_
 refine Wl ?_
 refine zu3 ?_
 refine Wf rfl (by exact decide_eq_false (by omega)) ?_
 refine zu3 ?_
 refine Wf rfl (by exact decide_eq_false (by omega)) ?_
 refine Wj ?_
 refine Ws ?_
 refine z8 ?_
 refine zc rfl Tryz.func145 ((gU) _) ?_
 refine zc rfl Tryz.func146 ((gi) _) ?_
 refine zc rfl Tryz.func147 ((iP) _) ?_
 refine zc rfl Tryz.func148 ((iK) _) ?_
 refine zc rfl Tryz.func149 ((ke) _) ?_
 refine zs2 ?_
 refine Wl ?_
 refine ia 7 ?_
 show W _ _ _ _ _ _ _
 refine zu1 ?_
 refine Ws ?_
 refine Wt rfl (by rfl) ?_
 refine Wj ?_
 refine Ws ?_
 refine Wl ?_
 refine z8 ?_
 refine z2 ?_ (q:=(by decide))
 refine zs1 ?_
 refine zp2 ?_
 refine Wd rfl rfl (bi (b:=true) (e:=155) (key:=.s name) (by kernel_rfl) (lO tG rfl) (by kernel_rfl) rfl rfl rfl rfl (by kernel_rfl) ((by exact h0))) ?_
 refine zy5 ?_
 refine zs1 ?_
 refine zu1 ?_
 refine Wf rfl (by rfl) ?_
 refine Wj ?_
 refine aa rfl ?_
 refine z1 ?_
 refine Wa 36 rfl (show _=PV.val (.int .i64 1) from rfl) ?_
 refine zs1 ?_
 show W _ _ _ _ _ _ _
 refine zu1 ?_
 refine Ws ?_
 refine Wt rfl (by rfl) ?_
 refine Wj ?_
 refine Ws ?_
 refine Wl ?_
 refine z8 ?_
 refine z2 ?_ (q:=(by decide))
 refine zs1 ?_
 refine zp2 ?_
 refine Wd rfl rfl (bi (b:=true) (e:=155) (key:=.s name) (by kernel_rfl) (lO tG rfl) (by kernel_rfl) rfl rfl rfl rfl (by kernel_rfl) ((by exact h1))) ?_
 refine zy5 ?_
 refine zs1 ?_
 refine zu1 ?_
 refine Wf rfl (by rfl) ?_
 refine Wj ?_
 refine aa rfl ?_
 refine z1 ?_
 refine Wa 36 rfl (show _=PV.val (.int .i64 2) from rfl) ?_
 refine zs1 ?_
 show W _ _ _ _ _ _ _
 refine zu1 ?_
 refine Ws ?_
 refine Wt rfl (by rfl) ?_
 refine Wj ?_
 refine Ws ?_
 refine Wl ?_
 refine z8 ?_
 refine z2 ?_ (q:=(by decide))
 refine zs1 ?_
 refine zp2 ?_
 refine Wd rfl rfl (bi (b:=true) (e:=155) (key:=.s name) (by kernel_rfl) (lO tG rfl) (by kernel_rfl) rfl rfl rfl rfl (by kernel_rfl) ((by exact h2))) ?_
 refine zy5 ?_
 refine zs1 ?_
 refine zu1 ?_
 refine Wf rfl (by rfl) ?_
 refine Wj ?_
 refine aa rfl ?_
 refine z1 ?_
 refine Wa 36 rfl (show _=PV.val (.int .i64 3) from rfl) ?_
 refine zs1 ?_
 show W _ _ _ _ _ _ _
 refine zu1 ?_
 refine Ws ?_
 refine Wt rfl (by rfl) ?_
 refine Wj ?_
 refine Ws ?_
 refine Wl ?_
 refine z8 ?_
 refine z2 ?_ (q:=(by decide))
 refine zs1 ?_
 refine zp2 ?_
 refine Wd rfl rfl (bi (b:=true) (e:=155) (key:=.s name) (by kernel_rfl) (lO tG rfl) (by kernel_rfl) rfl rfl rfl rfl (by kernel_rfl) ((by exact h3))) ?_
 refine zy5 ?_
 refine zs1 ?_
 refine zu1 ?_
 refine Wf rfl (by rfl) ?_
 refine Wj ?_
 refine aa rfl ?_
 refine z1 ?_
 refine Wa 36 rfl (show _=PV.val (.int .i64 4) from rfl) ?_
 refine zs1 ?_
 show W _ _ _ _ _ _ _
 refine zu1 ?_
 refine Ws ?_
 refine Wt rfl (by rfl) ?_
 refine Wj ?_
 refine Ws ?_
 refine Wl ?_
 refine z8 ?_
 refine z2 ?_ (q:=(by decide))
 refine zs1 ?_
 refine zp2 ?_
 refine Wd rfl rfl (bi (b:=true) (e:=155) (key:=.s name) (by kernel_rfl) (lO tG rfl) (by kernel_rfl) rfl rfl rfl rfl (by kernel_rfl) ((by exact h4))) ?_
 refine zy5 ?_
 refine zs1 ?_
 refine zu1 ?_
 refine Wt rfl (by rfl) ?_
 refine zu2 ?_
 refine zR ?_
 rfl
theorem fQ(n:Int)(name:Str)(k:Int)(f:FuncId)(cap:List PV)(hn:72<n)(hc:aL cap)(h0:ii rkK rkV (.s name) dz=(dz,false))(h1:ii meK meV (.s name) dz=(dz,false))(h2:ii spK spV (.s name) dz=(dz,false))(h3:ii prK prV (.s name) dz=(dz,false))(h4:ii piK piV (.s name) dz=(dz,false))(h5:ii otK otV (.s name) dz=(bb k f cap,true)):ab Tryz.prog 100 [i64 n,str name] (bb k f cap):=by
 refine pW tG (rs:=[.cell 4 155]) Tryz.func100 rfl rfl rfl (by simp[hc]) (by simp[hc]) (fun B=>?_)
 refine zu2 ?_
 refine Ws ?_
 refine Wl ?_
 refine zu3 ?_
 refine Wf rfl (by exact decide_eq_false (by omega)) ?_
 refine zu3 ?_
 refine Wf rfl (by exact decide_eq_false (by omega)) ?_
 refine Wj ?_
 refine Ws ?_
 refine z8 ?_
 refine zc rfl Tryz.func145 ((gU) _) ?_
 refine zc rfl Tryz.func146 ((gi) _) ?_
 refine zc rfl Tryz.func147 ((iP) _) ?_
 refine zc rfl Tryz.func148 ((iK) _) ?_
 refine zc rfl Tryz.func149 ((ke) _) ?_
 refine zs2 ?_
 refine Wl ?_
 refine ia 7 ?_
 show W _ _ _ _ _ _ _
 refine zu1 ?_
 refine Ws ?_
 refine Wt rfl (by rfl) ?_
 refine Wj ?_
 refine Ws ?_
 refine Wl ?_
 refine z8 ?_
 refine z2 ?_ (q:=(by decide))
 refine zs1 ?_
 refine zp2 ?_
 refine Wd rfl rfl (bi (b:=true) (e:=155) (key:=.s name) (by kernel_rfl) (lO tG rfl) (by kernel_rfl) rfl rfl rfl rfl (by kernel_rfl) ((by exact h0))) ?_
 refine zy5 ?_
 refine zs1 ?_
 refine zu1 ?_
 refine Wf rfl (by rfl) ?_
 refine Wj ?_
 refine aa rfl ?_
 refine z1 ?_
 refine Wa 36 rfl (show _=PV.val (.int .i64 1) from rfl) ?_
 refine zs1 ?_
 show W _ _ _ _ _ _ _
 refine zu1 ?_
 refine Ws ?_
 refine Wt rfl (by rfl) ?_
 refine Wj ?_
 refine Ws ?_
 refine Wl ?_
 refine z8 ?_
 refine z2 ?_ (q:=(by decide))
 refine zs1 ?_
 refine zp2 ?_
 refine Wd rfl rfl (bi (b:=true) (e:=155) (key:=.s name) (by kernel_rfl) (lO tG rfl) (by kernel_rfl) rfl rfl rfl rfl (by kernel_rfl) ((by exact h1))) ?_
 refine zy5 ?_
 refine zs1 ?_
 refine zu1 ?_
 refine Wf rfl (by rfl) ?_
 refine Wj ?_
 refine aa rfl ?_
 refine z1 ?_
 refine Wa 36 rfl (show _=PV.val (.int .i64 2) from rfl) ?_
 refine zs1 ?_
 show W _ _ _ _ _ _ _
 refine zu1 ?_
 refine Ws ?_
 refine Wt rfl (by rfl) ?_
 refine Wj ?_
 refine Ws ?_
 refine Wl ?_
 refine z8 ?_
 refine z2 ?_ (q:=(by decide))
 refine zs1 ?_
 refine zp2 ?_
 refine Wd rfl rfl (bi (b:=true) (e:=155) (key:=.s name) (by kernel_rfl) (lO tG rfl) (by kernel_rfl) rfl rfl rfl rfl (by kernel_rfl) ((by exact h2))) ?_
 refine zy5 ?_
 refine zs1 ?_
 refine zu1 ?_
 refine Wf rfl (by rfl) ?_
 refine Wj ?_
 refine aa rfl ?_
 refine z1 ?_
 refine Wa 36 rfl (show _=PV.val (.int .i64 3) from rfl) ?_
 refine zs1 ?_
 show W _ _ _ _ _ _ _
 refine zu1 ?_
 refine Ws ?_
 refine Wt rfl (by rfl) ?_
 refine Wj ?_
 refine Ws ?_
 refine Wl ?_
 refine z8 ?_
 refine z2 ?_ (q:=(by decide))
 refine zs1 ?_
 refine zp2 ?_
 refine Wd rfl rfl (bi (b:=true) (e:=155) (key:=.s name) (by kernel_rfl) (lO tG rfl) (by kernel_rfl) rfl rfl rfl rfl (by kernel_rfl) ((by exact h3))) ?_
 refine zy5 ?_
 refine zs1 ?_
 refine zu1 ?_
 refine Wf rfl (by rfl) ?_
 refine Wj ?_
 refine aa rfl ?_
 refine z1 ?_
 refine Wa 36 rfl (show _=PV.val (.int .i64 4) from rfl) ?_
 refine zs1 ?_
 show W _ _ _ _ _ _ _
 refine zu1 ?_
 refine Ws ?_
 refine Wt rfl (by rfl) ?_
 refine Wj ?_
 refine Ws ?_
 refine Wl ?_
 refine z8 ?_
 refine z2 ?_ (q:=(by decide))
 refine zs1 ?_
 refine zp2 ?_
 refine Wd rfl rfl (bi (b:=true) (e:=155) (key:=.s name) (by kernel_rfl) (lO tG rfl) (by kernel_rfl) rfl rfl rfl rfl (by kernel_rfl) ((by exact h4))) ?_
 refine zy5 ?_
 refine zs1 ?_
 refine zu1 ?_
 refine Wf rfl (by rfl) ?_
 refine Wj ?_
 refine aa rfl ?_
 refine z1 ?_
 refine Wa 36 rfl (show _=PV.val (.int .i64 5) from rfl) ?_
 refine zs1 ?_
 show W _ _ _ _ _ _ _
 refine zu1 ?_
 refine Ws ?_
 refine Wf rfl (by rfl) ?_
 refine aN ?_
 refine Ws ?_
 refine ai [0,1,0,3] [0,1,2,3] mG rfl (by kernel_rfl) ?_
 refine Xc rfl rfl rfl rfl (fun _=>dC rfl Tryz.func150 rfl rfl ((zL) _)) ?_
 refine z5 ?_
 refine cI rfl rfl rfl rfl (fun _=>bi (b:=false) (e:=155) (key:=.s name) (by kernel_rfl) (lO tG rfl) (by kernel_rfl) rfl rfl rfl rfl (by kernel_rfl) ((by exact h5))) ?_
 refine aZ tG rfl rfl rfl rfl rfl trivial ?_
 refine ah ?_
 refine zR ?_
 rfl
theorem Ft(l:List Int)(hl:l.length≤1000000):Gf Tryz.prog 101 [sq af l] l.length (l.flatMap af) 1:=by
 refine wJ tG (rs:=[.tmp 2]) Tryz.func101 rfl rfl rfl (by simp) (bW (fun x=>by simp) _) (fun B=>?_)
 refine zp1 ?_
 refine ns 2 0 1 rfl rfl ?_
 refine Wn ?_
 refine Ws ?_
 refine zp1 ?_
 refine ym (lO tG rfl) rfl rfl rfl rfl rfl (fun bn1 hn1=>?_)
 refine Wn ?_
 refine Wi rfl (fun hi1=>?_) (fun hi1=>?_)
 ·refine zp1 ?_
  refine ns 2 0 1 rfl rfl ?_
  refine Wn ?_
  refine Wq ?_
  exact IW rfl (hn1 hi1).1.symm (hn1 hi1).2.symm rfl (by omega)
 refine Wj ?_
 refine zp2 ?_
 refine Wd rfl rfl (aC (lO tG rfl) rfl (lO tG rfl) (lO tG rfl) rfl rfl (by exact⟨_,rfl⟩) (by exact⟨rfl,rfl,ag _ 1 (fun _=>rfl) _,aB _ (fun _=>rfl) _⟩) (by rfl) (by(dsimp only;omega)) (by(omega))) ?_
 refine Wa 7 rfl (i4 af) ?_
 refine z1 ?_
 skip
 refine Wn ?_
 refine Wq ?_
 exact IW rfl rfl rfl rfl (by show(0+l.length)*1≤_;omega)
def gR(s:List Int)(roll:Bool)(limit:Int):List Int×Bool×Int :=
 if (ba s).2.2≠0∨(ba s).1<0∨((ba s).2.1.length:Int)≤(ba s).1 then(s,true,-4)else
  if roll then jC s ((ba s).1.toNat+2) ((ba s).2.1.drop ((ba s).2.1.length-1-(ba s).1.toNat+1)++[(ba s).2.1.getD ((ba s).2.1.length-1-(ba s).1.toNat) 0]) limit
  else jC s 1 [(ba s).2.1.getD ((ba s).2.1.length-1-(ba s).1.toNat) 0] limit
theorem Bs{s:List Int}(h:(ba s).2.2=0):(ba s).2.1.length+1=s.length:=by
 unfold ba at h ⊢
 split at h
 ·cases h
 rename_i h0
 rw[if_neg h0]
 simp only[List.length_take];omega
theorem Av(s:List Int)(roll:Bool)(limit:Int)(hs:s.length≤100000)(hm : -9223372036854775808≤limit∧limit≤9223372036854775807):
  ab Tryz.prog 137 [sq af s,boo roll,i64 limit] (tZ (gR s roll limit)):=by
 refine pW tG (rs:=[.tmp 6,.tmp 7,.tmp 8]) Tryz.func137 rfl rfl rfl (by simp) (by simp) (fun B=>?_)
 refine zu3 ?_
 refine zp1 ?_
 refine zc rfl Tryz.func177 ((xU s hs) _) ?_
 refine zy5 ?_
 refine zs2 ?_
 refine Ws ?_
 refine zp3 ?_
 refine Wb 21 rfl (fun hg1=>?_) (fun hg1=>?_)
 ·have h0:(ba s).2.2≠0:=by simpa using hg1
  iterate 2 refine z6 ?_
  refine zy2 ?_
  iterate 4 refine z6 ?_
  refine zs1 ?_
  refine Wt rfl rfl ?_
  refine zu4 ?_
  refine zR ?_
  rw[gR,if_pos (.inl h0)];rfl
 have h0:(ba s).2.2=0:=by simpa using hg1
 have hl:=Bs h0
 refine zy4 ?_
 refine Wb 25 rfl (fun hg2=>?_) (fun hg2=>?_)
 ·have h1:(ba s).1<0:=by simpa using hg2
  iterate 4 refine z6 ?_
  refine zs1 ?_
  refine Wt rfl rfl ?_
  refine zu4 ?_
  refine zR ?_
  rw[gR,if_pos (.inr (.inl h1))];rfl
 have h1:¬(ba s).1<0:=by simpa using hg2
 refine zs5 ?_
 refine Wi rfl (fun hi1=>?_) (fun hi1=>?_)
 ·have h2:((ba s).2.1.length:Int)≤(ba s).1:=by simpa using hi1
  refine zu4 ?_
  refine zR ?_
  rw[gR,if_pos (.inr (.inr h2))];rfl
 have h2:¬((ba s).2.1.length:Int)≤(ba s).1:=by simpa using hi1
 have hc:¬((ba s).2.2≠0∨(ba s).1<0∨((ba s).2.1.length:Int)≤(ba s).1):=by rintro(h|h|h)<;>contradiction
 have w1:IntKind.i64.wrap (IntKind.i64.wrap (((ba s).2.1.length:Int)-1)-(ba s).1)=(((ba s).2.1.length-1-(ba s).1.toNat:Nat):Int):=by simp only[aK];unfold wrap64;omega
 have w2:IntKind.i64.wrap ((((ba s).2.1.length-1-(ba s).1.toNat:Nat):Int)+1)=(((ba s).2.1.length-1-(ba s).1.toNat+1:Nat):Int):=by simp only[aK];unfold wrap64;omega
 have w3:IntKind.i64.wrap ((ba s).1+2)=(((ba s).1.toNat+2:Nat):Int):=by simp only[aK];unfold wrap64;omega
 refine Wj ?_
 refine zp5 ?_
 refine Wa 36 rfl (congrArg (fun z=>PV.val (Value.int .i64 z)) w1) ?_
 refine zs1 ?_
 refine Ws ?_
 refine zu1 ?_
 refine Wi rfl (fun hi2=>?_) (fun hi2=>?_)
 ·refine Ws ?_
  refine ai [0,0,0,0,0,0,0,2,0,0,0,0,0,3,0,0,0,0,0,0,0,0] [0,1,2,3,4,5,6,8,9,10,11,12,14,7,13,15,16,17,18,19,20,21] mG rfl (by kernel_rfl) ?_
  iterate 3 refine z3 ?_
  refine Xa 40 rfl (congrArg (fun z=>PV.val (Value.int .i64 z)) w3) ?_
  iterate 3 refine z3 ?_
  refine Xa 43 rfl (congrArg (fun z=>PV.val (Value.int .i64 z)) w2) ?_
  refine z4 ?_ (q:=(by(simp_all;omega)))
  refine Xa 44 rfl (bM af 1 (fun _=>rfl) (by omega)) ?_
  refine Xa 44 rfl ((show _=sq af ((ba s).2.1.drop ((ba s).2.1.length-1-(ba s).1.toNat+1)) by rw[List.take_length,Int.toNat_natCast];rfl)) ?_
  iterate 2 refine z3 ?_
  refine Xi tG rfl rfl rfl rfl (fun _=>rfl) (by omega) (iN af 1 (fun _=>rfl) 0 (by omega)) ?_
  iterate 2 refine z3 ?_
  refine Xa 50 rfl (bsL af [_] rfl rfl) ?_
  refine z3 ?_
  refine JK rfl rfl rfl rfl (dC rfl Tryz.func101 rfl rfl (Ft _ (by simp;omega) _)) ?_
  refine ej rfl rfl rfl rfl (aF (lO tG rfl) rfl (lO tG rfl) (lO tG rfl) rfl rfl rfl rfl (by simp) (by exact⟨_,rfl⟩) (by exact⟨rfl,rfl,ag _ 1 (fun _=>rfl) _,aB _ (fun _=>rfl) _⟩) (by(simp;omega)) (by(simp;omega))) ?_
  refine Xa 51 rfl (aM af) ?_
  refine Xc rfl rfl rfl rfl (fun _=>dC rfl Tryz.func136 rfl rfl ((lX s _ _ _ hs (by omega) (by simp;omega) hm) _)) ?_
  iterate 6 refine z3 ?_
  refine ah ?_
  refine zR ?_
  rw[gR,if_neg hc,if_pos hi2];rfl
 refine Wj ?_
 refine zp3 ?_
 refine Wv tG rfl rfl rfl (by omega) (iN af 1 (fun _=>rfl) 0 (by omega)) ?_
 refine zy2 ?_
 refine Wa 62 rfl (bsL af [_] rfl rfl) ?_
 refine z1 ?_
 refine zc rfl Tryz.func136 ((lX s 1 _ _ hs (by omega) (by simp) hm) _) ?_
 refine zy5 ?_
 refine zs1 ?_
 refine zR ?_
 rw[gR,if_neg hc,if_neg (by rw[hi2];simp)];rfl
def JA:List (Str×Nat×Str):=[([68,85,80],1,[97,97]),([68,82,79,80],1,[]),([83,87,65,80],2,[98,97]),([79,86,69,82],2,[97,98,97]),([78,73,80],2,[98]),([84,85,67,75],2,[98,97,98]),([82,79,84],3,[98,99,97]),([45,82,79,84],3,[99,97,98]),([50,68,85,80],2,[97,98,97,98]),([50,68,82,79,80],2,[]),([50,83,87,65,80],4,[99,100,97,98]),([50,79,86,69,82],4,[97,98,99,100,97,98])]
def yG:List fg:=JA.map fun q=>.s q.1
def tO:List PV:=JA.map fun q=>.agg [i64 q.2.1,str q.2.2]
theorem zz:aQ (.smap yG tO):=by
 unfold aQ tO
 exact wD _ (fun q=>by simp) _
theorem ur:ab Tryz.prog 138 [] (.smap yG tO):=by
 refine pW tG (rs:=[.tmp 0]) Tryz.func138 rfl rfl rfl (by simp;done) (by exact zz) (fun B=>?_)
 refine zu1 ?_
 refine z8 ?_
 refine Wd rfl rfl (dg rfl) ?_
 refine z1 ?_
 refine Wd rfl rfl (dI (e:=200) (key:=.s [68,85,80]) (by kernel_rfl) rfl rfl rfl rfl (by kernel_rfl)) ?_
 refine z1 ?_
 refine Wd rfl rfl (dI (e:=200) (key:=.s [68,82,79,80]) (by kernel_rfl) rfl rfl rfl rfl (by kernel_rfl)) ?_
 refine z1 ?_
 refine Wd rfl rfl (dI (e:=200) (key:=.s [83,87,65,80]) (by kernel_rfl) rfl rfl rfl rfl (by kernel_rfl)) ?_
 refine z1 ?_
 refine Wd rfl rfl (dI (e:=200) (key:=.s [79,86,69,82]) (by kernel_rfl) rfl rfl rfl rfl (by kernel_rfl)) ?_
 refine z1 ?_
 refine Wd rfl rfl (dI (e:=200) (key:=.s [78,73,80]) (by kernel_rfl) rfl rfl rfl rfl (by kernel_rfl)) ?_
 refine z1 ?_
 refine Wd rfl rfl (dI (e:=200) (key:=.s [84,85,67,75]) (by kernel_rfl) rfl rfl rfl rfl (by kernel_rfl)) ?_
 refine z1 ?_
 refine Wd rfl rfl (dI (e:=200) (key:=.s [82,79,84]) (by kernel_rfl) rfl rfl rfl rfl (by kernel_rfl)) ?_
 refine z1 ?_
 refine Wd rfl rfl (dI (e:=200) (key:=.s [45,82,79,84]) (by kernel_rfl) rfl rfl rfl rfl (by kernel_rfl)) ?_
 refine z1 ?_
 refine Wd rfl rfl (dI (e:=200) (key:=.s [50,68,85,80]) (by kernel_rfl) rfl rfl rfl rfl (by kernel_rfl)) ?_
 refine z1 ?_
 refine Wd rfl rfl (dI (e:=200) (key:=.s [50,68,82,79,80]) (by kernel_rfl) rfl rfl rfl rfl (by kernel_rfl)) ?_
 refine z1 ?_
 refine Wd rfl rfl (dI (e:=200) (key:=.s [50,83,87,65,80]) (by kernel_rfl) rfl rfl rfl rfl (by kernel_rfl)) ?_
 refine z1 ?_
 refine Wd rfl rfl (dI (e:=200) (key:=.s [50,79,86,69,82]) (by kernel_rfl) rfl rfl rfl rfl (by kernel_rfl)) ?_
 refine z1 ?_
 refine ee 14 _ rfl rfl rfl ?_
 refine zs1 ?_
 refine zR ?_
 rfl
def B7(s:List Int)(tk:Nat)(lv:Str)(limit:Int):List Int×Bool×Int :=
 if s.length<tk then(s,true,-4)else jC s tk (lv.map fun c=>(s.drop (s.length-tk)).getD (c.toNat-97) 0) limit
theorem Ba{lv:Str}{f:UInt8→Int}{k:Nat}{q:SK}(hk:k<lv.length):PV.seq ((lv.take k).map f++[f (lv.getD k 0)]).length (((lv.take k).map f++[f (lv.getD k 0)]).flatMap af) q=.seq ((lv.take (k+1)).map f).length (((lv.take (k+1)).map f).flatMap af) q:=by
 rw[gE lv k 0 hk,List.map_append];rfl
theorem fV(name:Str)(s:List Int)(limit:Int)(tk:Nat)(lv:Str)(hs:s.length≤100000)(hm : -9223372036854775808≤limit∧limit≤9223372036854775807)(h1:name≠[68,69,80,84,72])(h2:name≠[80,73,67,75])(h3:name≠[82,79,76,76])(h4:name≠[63,68,85,80])
  (hk:ii yG tO (.s name) (.agg [i64 0,str []])=(.agg [i64 tk,str lv],true)) (hl:∀c∈lv,97≤c.toNat∧c.toNat<97+tk) (hlen:lv.length≤10) (htk:tk≤4) :
  ab Tryz.prog 99 [str name,sq af s,i64 limit] (tZ (B7 s tk lv limit)):=by
 refine pW tG (rs:=[.tmp 6,.tmp 7,.tmp 8]) Tryz.func99 rfl rfl rfl (by simp) (by simp) (fun B=>?_)
 refine zu3 ?_
 refine Ws ?_
 refine zu1 ?_
 refine Wl ?_
 refine zp1 ?_
 refine zq 17 ?_
 refine zs1 ?_
 refine Wf rfl (by exact decide_eq_false h1) ?_
 refine Ws ?_
 refine zp1 ?_
 refine zq 28 ?_
 refine zs1 ?_
 refine Wf rfl (by exact decide_eq_false h2) ?_
 refine aa rfl ?_
 refine z1 ?_
 refine zq 29 ?_
 refine zs1 ?_
 refine Wf rfl (by exact decide_eq_false h3) ?_
 refine Wj ?_
 refine z8 ?_
 refine zc rfl Tryz.func138 ((ur) _) ?_
 refine z1 ?_
 refine Wd rfl rfl (bi (b:=true) (e:=200) (key:=.s name) (by kernel_rfl) (lO tG rfl) (by kernel_rfl) rfl rfl rfl rfl (by kernel_rfl) (hk)) ?_
 refine zy5 ?_
 refine zs1 ?_
 refine Ws ?_
 refine zp2 ?_
 refine zq 45 ?_
 refine Wn ?_
 refine Wf rfl (by exact decide_eq_false h4) ?_
 refine Wj ?_
 refine Ws ?_
 refine zu2 ?_
 refine Wf rfl (by rfl) ?_
 refine Wj ?_
 refine Ws ?_
 refine zu5 ?_
 refine Wi rfl (fun hi6=>?_) (fun hi6=>?_)
 ·have h0:s.length<tk:=by(try simp only[dnL]at *);omega
  refine zu4 ?_
  refine zR ?_
  rw[B7,if_pos h0];rfl
 have h0:¬s.length<tk:=by(try simp only[dnL]at *);omega
 have w1:IntKind.i64.wrap ((s.length:Int)-(tk:Int))=((s.length-tk:Nat):Int):=by((rw[aK];unfold wrap64;(try simp only[dnL]at *);omega))
 refine Wj ?_
 refine zp5 ?_
 refine z1 ?_
 refine Wa 74 rfl (congrArg (fun z=>PV.val (Value.int .i64 z)) w1) ?_
 refine z2 ?_ (q:=(by(simp_all;done)))
 refine Wa 75 rfl (bM af 1 (fun _=>rfl) (by omega)) ?_
 refine Wa 75 rfl ((show _=sq af (s.drop (s.length-tk)) by rw[List.take_length,Int.toNat_natCast];rfl)) ?_
 refine zs1 ?_
 refine zp1 ?_
 refine ns 12 0 1 rfl rfl ?_
 refine Wn ?_
 refine Ws ?_
 refine zp2 ?_
 refine Wd rfl rfl (lq (lO tG rfl) rfl rfl rfl) ?_
 refine Wn ?_
 refine Wl ?_
 show W _ _ _ _ _ _ _
 refine bG (fun(k:Nat)=>[(1,sq af s),(2,i64 limit),(9,.ptr 0 0),(11,sq af (s.drop (s.length-tk))),(78,.ptr 3 0),(12,.seq ((lv.take k).map fun c=>(s.drop (s.length-tk)).getD (c.toNat-97) 0).length (((lv.take k).map fun c=>(s.drop (s.length-tk)).getD (c.toNat-97) 0).flatMap af) (.own 4 1))]) (fun(k:Nat)=>[.cells [i64 tk,str lv] 200,.dead,.dead]) (fun(k:Nat)=>[.iter lv k,.free (((lv.take k).map fun c=>(s.drop (s.length-tk)).getD (c.toNat-97) 0).length*1)]) (fun(k:Nat)=>k≤lv.length) (fun(k:Nat)=>lv.length-k) (0) (by omega) [2,1] ?_ ?_
 ·exact bu
 intro k hk
 refine z8 ?_
 by_cases hx1:k<lv.length
 ·have hc:=hl (lv.getD k 0) (by simp only[List.getD,List.getElem?_eq_getElem hx1,Option.getD_some];exact List.getElem_mem hx1)
  have w2:IntKind.i32.wrap (((lv.getD k 0).toNat:Int)-97)=(((lv.getD k 0).toNat-97:Nat):Int):=by rw[IntWalk.i32_left];unfold wrap32;omega
  refine Wd rfl rfl (oQ rfl rfl rfl (by exact hx1) (by omega)) ?_
  refine zs1 ?_
  refine Ws ?_
  refine Wt rfl rfl ?_
  refine Wj ?_
  refine Wl ?_
  refine zu2 ?_
  refine aa rfl ?_
  refine zy4 ?_
  refine Wa 85 rfl (congrArg (fun z=>PV.val (Value.int .i32 z)) w2) ?_
  refine Wv tG rfl rfl rfl (by simp only[List.length_drop,Int.toNat_natCast];omega) (iN af 1 (fun _=>rfl) 0 (by simp only[List.length_drop,Int.toNat_natCast];omega)) ?_
  refine zy2 ?_
  refine Wa 88 rfl (bsL af [_] rfl rfl) ?_
  refine Wd rfl rfl (aF (lO tG rfl) rfl (lO tG rfl) (lO tG rfl) rfl rfl rfl rfl (by simp) (by exact⟨_,rfl⟩) (by exact⟨rfl,rfl,ag _ 1 (fun _=>rfl) _,aB _ (fun _=>rfl) _⟩) (by((simp_all;omega))) (by((simp_all;omega)))) ?_
  refine Wa 89 rfl (aM af) ?_
  refine z1 ?_
  skip
  refine Wn ?_
  exact⟨k+1,[3,5],(by omega),(by omega),(bu (sub:=by repeat (first|exact bo|refine aX (by first|exact aH rfl|exact aH (Ba hx1)) ?_)))⟩
 refine Wd rfl rfl (lr rfl rfl rfl (by omega)) ?_
 refine zs1 ?_
 refine Ws ?_
 refine Wf rfl rfl ?_
 refine aN ?_
 refine zp5 ?_
 refine zc rfl Tryz.func136 ((lX s tk _ limit hs (by omega) (by simp;omega) hm) _) ?_
 refine zy5 ?_
 refine zs1 ?_
 refine zR ?_
 rw[B7,if_neg h0,bk lv k (by omega)];rfl
def Is(name:Str):Nat :=
 if name=[68,85,80]then 1 else
 if name=[83,87,65,80]then 2 else
 if name=[79,86,69,82]then 2 else
 if name=[78,73,80]then 2 else
 if name=[84,85,67,75]then 2 else
 if name=[82,79,84]then 3 else
 if name=[45,82,79,84]then 3 else
 if name=[50,68,85,80]then 2 else
 if name=[50,83,87,65,80]then 4 else
 if name=[50,79,86,69,82]then 4 else
 if name=[63,68,85,80]then 1 else
 if name=[68,69,80,84,72]then 0 else
 if name=[80,73,67,75]then 2 else
 if name=[82,79,76,76]then 2 else
 0
theorem Hf(name:Str)(x:List Int)(depth:Nat)(hx:Is name≤x.length)(hl:x.length≤100000):ab Tryz.prog 161 [str name,sq af x,i64 depth] (sq af (ky name x depth)):=by
 have w1:1≤x.length→IntKind.i64.wrap ((x.length:Int)-1)=((x.length-1:Nat):Int):=fun h=>by((rw[aK];unfold wrap64;(try simp only[dnL]at *);omega))
 refine pW tG (rs:=[.tmp 6]) Tryz.func161 rfl rfl rfl (by simp) (by simp) (fun B=>?_)
 refine zu1 ?_
 refine Ws ?_
 refine zu1 ?_
 refine Wl ?_
 refine zp1 ?_
 refine zq 9 ?_
 refine zs1 ?_
 refine Wi rfl (fun hi1=>?_) (fun hi1=>?_)
 ·have hq:name=[68,85,80]:=oT hi1
  subst hq
  have hx2:1≤x.length:=hx
  refine Ws ?_
  refine ai [0,0,1,0,0,1,0,0] [0,1,2,3,4,5,6,7] mG rfl (by kernel_rfl) ?_
  refine z3 ?_
  refine z9i ?_
  refine z5 ?_
  refine z3 ?_
  refine z9i ?_
  refine z5 ?_
  refine z3 ?_
  refine Xa 16 rfl (bsL af [_,_] rfl rfl) ?_
  refine z3 ?_
  refine ah ?_
  refine zR ?_
  rfl
 refine zp1 ?_
 refine zq 18 ?_
 refine zs1 ?_
 refine Wi rfl (fun hi2=>?_) (fun hi2=>?_)
 ·have hq:name=[83,87,65,80]:=oT hi2
  subst hq
  have hx2:2≤x.length:=hx
  refine Ws ?_
  refine ai [0,0,1,0,0,1,0,0] [0,1,2,3,4,5,6,7] mG rfl (by kernel_rfl) ?_
  refine z3 ?_
  refine z9i ?_
  refine z5 ?_
  refine z3 ?_
  refine z9i ?_
  refine z5 ?_
  refine z3 ?_
  refine Xa 25 rfl (bsL af [_,_] rfl rfl) ?_
  refine z3 ?_
  refine ah ?_
  refine zR ?_
  rfl
 refine zp1 ?_
 refine zq 27 ?_
 refine zs1 ?_
 refine Wi rfl (fun hi3=>?_) (fun hi3=>?_)
 ·have hq:name=[79,86,69,82]:=oT hi3
  subst hq
  have hx2:2≤x.length:=hx
  refine Ws ?_
  refine ai [0,0,1,0,0,1,0,0,1,0,0] [0,1,2,3,4,5,6,7,8,9,10] mG rfl (by kernel_rfl) ?_
  refine z3 ?_
  refine z9i ?_
  refine z5 ?_
  refine z3 ?_
  refine z9i ?_
  refine z5 ?_
  refine z3 ?_
  refine z9i ?_
  refine z5 ?_
  refine z3 ?_
  refine Xa 37 rfl (bsL af [_,_,_] rfl rfl) ?_
  refine z3 ?_
  refine ah ?_
  refine zR ?_
  rfl
 refine zp1 ?_
 refine zq 39 ?_
 refine zs1 ?_
 refine Wi rfl (fun hi4=>?_) (fun hi4=>?_)
 ·have hq:name=[78,73,80]:=oT hi4
  subst hq
  have hx2:2≤x.length:=hx
  refine zp1 ?_
  refine Wv tG rfl rfl rfl (by omega) (iN af 1 (fun _=>rfl) 0 (by(simp only[dnL]at *;omega))) ?_
  refine zy2 ?_
  refine Wa 43 rfl (bsL af [_] rfl rfl) ?_
  refine zs1 ?_
  refine zR ?_
  rfl
 refine zp1 ?_
 refine zq 45 ?_
 refine zs1 ?_
 refine Wi rfl (fun hi5=>?_) (fun hi5=>?_)
 ·have hq:name=[84,85,67,75]:=oT hi5
  subst hq
  have hx2:2≤x.length:=hx
  refine Ws ?_
  refine ai [0,0,1,0,0,1,0,0,1,0,0] [0,1,2,3,4,5,6,7,8,9,10] mG rfl (by kernel_rfl) ?_
  refine z3 ?_
  refine z9i ?_
  refine z5 ?_
  refine z3 ?_
  refine z9i ?_
  refine z5 ?_
  refine z3 ?_
  refine z9i ?_
  refine z5 ?_
  refine z3 ?_
  refine Xa 55 rfl (bsL af [_,_,_] rfl rfl) ?_
  refine z3 ?_
  refine ah ?_
  refine zR ?_
  rfl
 refine zp1 ?_
 refine zq 57 ?_
 refine zs1 ?_
 refine Wi rfl (fun hi6=>?_) (fun hi6=>?_)
 ·have hq:name=[82,79,84]:=oT hi6
  subst hq
  have hx2:3≤x.length:=hx
  refine Ws ?_
  refine ai [0,0,1,0,0,1,0,0,1,0,0] [0,1,2,3,4,5,6,7,8,9,10] mG rfl (by kernel_rfl) ?_
  refine z3 ?_
  refine z9i ?_
  refine z5 ?_
  refine z3 ?_
  refine z9i ?_
  refine z5 ?_
  refine z3 ?_
  refine z9i ?_
  refine z5 ?_
  refine z3 ?_
  refine Xa 67 rfl (bsL af [_,_,_] rfl rfl) ?_
  refine z3 ?_
  refine ah ?_
  refine zR ?_
  rfl
 refine zp1 ?_
 refine zq 69 ?_
 refine zs1 ?_
 refine Wi rfl (fun hi7=>?_) (fun hi7=>?_)
 ·have hq:name=[45,82,79,84]:=oT hi7
  subst hq
  have hx2:3≤x.length:=hx
  refine Ws ?_
  refine ai [0,0,1,0,0,1,0,0,1,0,0] [0,1,2,3,4,5,6,7,8,9,10] mG rfl (by kernel_rfl) ?_
  refine z3 ?_
  refine z9i ?_
  refine z5 ?_
  refine z3 ?_
  refine z9i ?_
  refine z5 ?_
  refine z3 ?_
  refine z9i ?_
  refine z5 ?_
  refine z3 ?_
  refine Xa 79 rfl (bsL af [_,_,_] rfl rfl) ?_
  refine z3 ?_
  refine ah ?_
  refine zR ?_
  rfl
 refine zp1 ?_
 refine zq 81 ?_
 refine zs1 ?_
 refine Wi rfl (fun hi8=>?_) (fun hi8=>?_)
 ·have hq:name=[50,68,85,80]:=oT hi8
  subst hq
  have hx2:2≤x.length:=hx
  refine Ws ?_
  refine ai [0,0,1,0,0,1,0,0,1,0,0,1,0,0] [0,1,2,3,4,5,6,7,8,9,10,11,12,13] mG rfl (by kernel_rfl) ?_
  refine z3 ?_
  refine z9i ?_
  refine z5 ?_
  refine z3 ?_
  refine z9i ?_
  refine z5 ?_
  refine z3 ?_
  refine z9i ?_
  refine z5 ?_
  refine z3 ?_
  refine z9i ?_
  refine z5 ?_
  refine z3 ?_
  refine Xa 94 rfl (bsL af [_,_,_,_] rfl rfl) ?_
  refine z3 ?_
  refine ah ?_
  refine zR ?_
  rfl
 refine zp1 ?_
 refine zq 96 ?_
 refine zs1 ?_
 refine Wi rfl (fun hi9=>?_) (fun hi9=>?_)
 ·have hq:name=[50,83,87,65,80]:=oT hi9
  subst hq
  have hx2:4≤x.length:=hx
  refine Ws ?_
  refine ai [0,0,1,0,0,1,0,0,1,0,0,1,0,0] [0,1,2,3,4,5,6,7,8,9,10,11,12,13] mG rfl (by kernel_rfl) ?_
  refine z3 ?_
  refine z9i ?_
  refine z5 ?_
  refine z3 ?_
  refine z9i ?_
  refine z5 ?_
  refine z3 ?_
  refine z9i ?_
  refine z5 ?_
  refine z3 ?_
  refine z9i ?_
  refine z5 ?_
  refine z3 ?_
  refine Xa 109 rfl (bsL af [_,_,_,_] rfl rfl) ?_
  refine z3 ?_
  refine ah ?_
  refine zR ?_
  rfl
 refine zp1 ?_
 refine zq 111 ?_
 refine zs1 ?_
 refine Wi rfl (fun hi10=>?_) (fun hi10=>?_)
 ·have hq:name=[50,79,86,69,82]:=oT hi10
  subst hq
  have hx2:4≤x.length:=hx
  refine Ws ?_
  refine ai [0,0,1,0,0,1,0,0,1,0,0,1,0,0,1,0,0,1,0,0] [0,1,2,3,4,5,6,7,8,9,10,11,12,13,14,15,16,17,18,19] mG rfl (by kernel_rfl) ?_
  refine z3 ?_
  refine z9i ?_
  refine z5 ?_
  refine z3 ?_
  refine z9i ?_
  refine z5 ?_
  refine z3 ?_
  refine z9i ?_
  refine z5 ?_
  refine z3 ?_
  refine z9i ?_
  refine z5 ?_
  refine z3 ?_
  refine z9i ?_
  refine z5 ?_
  refine z3 ?_
  refine z9i ?_
  refine z5 ?_
  refine z3 ?_
  refine Xa 130 rfl (bsL af [_,_,_,_,_,_] rfl rfl) ?_
  refine z3 ?_
  refine ah ?_
  refine zR ?_
  rfl
 refine zp1 ?_
 refine zq 132 ?_
 refine zs1 ?_
 refine Wi rfl (fun hi11=>?_) (fun hi11=>?_)
 ·have hq:name=[63,68,85,80]:=oT hi11
  subst hq
  have hx2:1≤x.length:=hx
  refine Ws ?_
  refine zp1 ?_
  refine Wv tG rfl rfl rfl (by omega) (iN af 1 (fun _=>rfl) 0 (by(simp only[dnL]at *;omega))) ?_
  refine zs2 ?_
  refine Wi rfl (fun hi12=>?_) (fun hi12=>?_)
  ·have h0:x.getD 0 0=0:=oT hi12
   refine zu2 ?_
   refine zR ?_
   (exact congrArg (sq af) (show _=ky _ _ _ from(if_pos h0).symm))
  have h0:¬x.getD 0 0=0:=oF hi12
  refine Wj ?_
  refine Ws ?_
  refine ai [0,0,1,0,0,1,0,0] [0,1,2,3,4,5,6,7] mG rfl (by kernel_rfl) ?_
  refine z3 ?_
  refine z9i ?_
  refine z5 ?_
  refine z3 ?_
  refine z9i ?_
  refine z5 ?_
  refine z3 ?_
  refine Xa 144 rfl (bsL af [_,_] rfl rfl) ?_
  refine z3 ?_
  refine ah ?_
  refine zR ?_
  (exact congrArg (sq af) (show [x.getD 0 0,x.getD 0 0]=ky _ _ _ from(if_neg h0).symm))
 refine zp1 ?_
 refine zq 146 ?_
 refine zs1 ?_
 refine Wi rfl (fun hi13=>?_) (fun hi13=>?_)
 ·have hq:name=[68,69,80,84,72]:=oT hi13
  subst hq
  have hx2:0≤x.length:=hx
  refine zp2 ?_
  refine Wa 148 rfl (bsL af [_] rfl rfl) ?_
  refine zs1 ?_
  refine zR ?_
  rfl
 refine zp1 ?_
 refine zq 150 ?_
 refine zs1 ?_
 refine Wi rfl (fun hi14=>?_) (fun hi14=>?_)
 ·have hq:name=[80,73,67,75]:=oT hi14
  subst hq
  have hx2:2≤x.length:=hx
  have w2:=w1 (by omega)
  refine Ws ?_
  refine ai [0,0,0,0,0,0,2,0,0,0,0,3,0] [0,1,2,3,4,5,7,8,9,10,6,11,12] mG rfl (by kernel_rfl) ?_
  iterate 5 refine z3 ?_
  refine Xa 155 rfl (congrArg (fun z=>PV.val (Value.int .i64 z)) w2) ?_
  refine z4 ?_ (q:=(by(simp_all;done)))
  refine Xa 156 rfl (bM af 1 (fun _=>rfl) (by omega)) ?_
  refine Xa 156 rfl ((show _=sq af (x.take (x.length-1)) by rw[Int.toNat_natCast,List.drop_zero];rfl)) ?_
  refine z3 ?_
  refine z9i ?_
  iterate 2 refine z3 ?_
  refine Xa 161 rfl (bsL af [_] rfl rfl) ?_
  refine je rfl rfl rfl rfl (aC (lO tG rfl) rfl (lO tG rfl) (lO tG rfl) rfl rfl (by exact⟨_,rfl⟩) (by exact⟨rfl,rfl,ag _ 1 (fun _=>rfl) _,aB _ (fun _=>rfl) _⟩) (by rfl) (by(simp;omega)) (by(simp;omega))) ?_
  refine Xa 157 rfl (i4 af) ?_
  refine ej rfl rfl rfl rfl (aF (lO tG rfl) rfl (lO tG rfl) (lO tG rfl) rfl rfl rfl rfl (by simp) (by exact⟨_,rfl⟩) (by exact⟨rfl,rfl,ag _ 1 (fun _=>rfl) _,aB _ (fun _=>rfl) _⟩) (by(simp;omega)) (by(simp;omega))) ?_
  refine Xa 162 rfl (aM af) ?_
  refine z3 ?_
  refine ah ?_
  refine zR ?_
  rfl
 refine zp1 ?_
 refine zq 164 ?_
 refine zs1 ?_
 refine Wi rfl (fun hi15=>?_) (fun hi15=>?_)
 ·have hq:name=[82,79,76,76]:=oT hi15
  subst hq
  have hx2:2≤x.length:=hx
  have w2:=w1 (by omega)
  refine Ws ?_
  refine ai [0,0,0,0,0,0,2,0,0,0,0,3,0] [0,1,2,3,4,5,7,8,9,10,6,11,12] mG rfl (by kernel_rfl) ?_
  iterate 5 refine z3 ?_
  refine Xa 169 rfl (congrArg (fun z=>PV.val (Value.int .i64 z)) w2) ?_
  refine z4 ?_ (q:=(by omega))
  refine Xa 170 rfl (bM af 1 (fun _=>rfl) (by omega)) ?_
  refine Xa 170 rfl ((show _=sq af ((x.take (x.length-1)).drop 1) by rw[Int.toNat_natCast];rfl)) ?_
  refine z3 ?_
  refine z9i ?_
  iterate 2 refine z3 ?_
  refine Xa 175 rfl (bsL af [_] rfl rfl) ?_
  refine je rfl rfl rfl rfl (aC (lO tG rfl) rfl (lO tG rfl) (lO tG rfl) rfl rfl (by exact⟨_,rfl⟩) (by exact⟨rfl,rfl,ag _ 1 (fun _=>rfl) _,aB _ (fun _=>rfl) _⟩) (by rfl) (by(simp;omega)) (by(simp;omega))) ?_
  refine Xa 171 rfl (i4 af) ?_
  refine ej rfl rfl rfl rfl (aF (lO tG rfl) rfl (lO tG rfl) (lO tG rfl) rfl rfl rfl rfl (by simp) (by exact⟨_,rfl⟩) (by exact⟨rfl,rfl,ag _ 1 (fun _=>rfl) _,aB _ (fun _=>rfl) _⟩) (by(simp;omega)) (by(simp;omega))) ?_
  refine Xa 176 rfl (aM af) ?_
  refine z3 ?_
  refine ah ?_
  refine zR ?_
  rfl
 refine Wj ?_
 refine zu1 ?_
 refine zR ?_
 (rw[ky,if_neg (oF hi1),if_neg (oF hi2),if_neg (oF hi3),if_neg (oF hi4),if_neg (oF hi5),if_neg (oF hi6),if_neg (oF hi7),if_neg (oF hi8),if_neg (oF hi9),if_neg (oF hi10),if_neg (oF hi11),if_neg (oF hi13),if_neg (oF hi14),if_neg (oF hi15)];rfl)
def ij(s:List Int):Int:=if s.length=0∨s.getD (s.length-1) 0<0∨(s.length:Int)-1≤s.getD (s.length-1) 0 then(s.length:Int)+1 else s.getD (s.length-1) 0+2
theorem GG(name:Str)(s:List Int)(hs:s.length≤100000):ab Tryz.prog 160 [str name,sq af s] (i64 (cE name s)):=by
 refine pW tG (rs:=[.tmp 4]) Tryz.func160 rfl rfl rfl (by simp) (by simp) (fun B=>?_)
 refine zu1 ?_
 refine Ws ?_
 refine zu1 ?_
 refine Wl ?_
 refine zp1 ?_
 refine zq 7 ?_
 refine zs1 ?_
 refine Wi rfl (fun hi1=>?_) (fun hi1=>?_)
 ·refine zu1 ?_
  refine zR ?_
  rw[show name=[68,69,80,84,72] from oT hi1];rfl
 refine Ws ?_
 refine zp1 ?_
 refine zq 9 ?_
 refine zs1 ?_
 refine Wi rfl (fun hi2=>?_) (fun hi2=>?_)
 ·refine Wj ?_
  refine Wt rfl hi2 ?_
  refine zu1 ?_
  refine zR ?_
  rw[show name=[68,85,80] from oT hi2];rfl
 refine zp1 ?_
 refine zq 10 ?_
 refine zs1 ?_
 refine Wi rfl (fun hi3=>?_) (fun hi3=>?_)
 ·refine Wj ?_
  refine Wt rfl hi3 ?_
  refine zu1 ?_
  refine zR ?_
  rw[show name=[68,82,79,80] from oT hi3];rfl
 refine aa rfl ?_
 refine z1 ?_
 refine zq 11 ?_
 refine zs1 ?_
 refine Wi rfl (fun hi4=>?_) (fun hi4=>?_)
 ·refine zu1 ?_
  refine zR ?_
  rw[show name=[63,68,85,80] from oT hi4];rfl
 refine Ws ?_
 refine zp1 ?_
 refine zq 13 ?_
 refine zs1 ?_
 refine Wi rfl (fun hi5=>?_) (fun hi5=>?_)
 ·refine Wj ?_
  refine Wt rfl hi5 ?_
  refine zu1 ?_
  refine zR ?_
  rw[show name=[83,87,65,80] from oT hi5];rfl
 refine zp1 ?_
 refine zq 14 ?_
 refine zs1 ?_
 refine Wi rfl (fun hi6=>?_) (fun hi6=>?_)
 ·refine Wj ?_
  refine Wt rfl hi6 ?_
  refine zu1 ?_
  refine zR ?_
  rw[show name=[79,86,69,82] from oT hi6];rfl
 refine zp1 ?_
 refine zq 15 ?_
 refine zs1 ?_
 refine Wi rfl (fun hi7=>?_) (fun hi7=>?_)
 ·refine Wj ?_
  refine Wt rfl hi7 ?_
  refine zu1 ?_
  refine zR ?_
  rw[show name=[78,73,80] from oT hi7];rfl
 refine zp1 ?_
 refine zq 16 ?_
 refine zs1 ?_
 refine Wi rfl (fun hi8=>?_) (fun hi8=>?_)
 ·refine Wj ?_
  refine Wt rfl hi8 ?_
  refine zu1 ?_
  refine zR ?_
  rw[show name=[84,85,67,75] from oT hi8];rfl
 refine zp1 ?_
 refine zq 17 ?_
 refine zs1 ?_
 refine Wi rfl (fun hi9=>?_) (fun hi9=>?_)
 ·refine Wj ?_
  refine Wt rfl hi9 ?_
  refine zu1 ?_
  refine zR ?_
  rw[show name=[50,68,85,80] from oT hi9];rfl
 refine aa rfl ?_
 refine z1 ?_
 refine zq 18 ?_
 refine zs1 ?_
 refine Wi rfl (fun hi10=>?_) (fun hi10=>?_)
 ·refine zu1 ?_
  refine zR ?_
  rw[show name=[50,68,82,79,80] from oT hi10];rfl
 refine Ws ?_
 refine zp1 ?_
 refine zq 20 ?_
 refine zs1 ?_
 refine Wi rfl (fun hi11=>?_) (fun hi11=>?_)
 ·refine Wj ?_
  refine Wt rfl hi11 ?_
  refine zu1 ?_
  refine zR ?_
  rw[show name=[82,79,84] from oT hi11];rfl
 refine aa rfl ?_
 refine z1 ?_
 refine zq 21 ?_
 refine zs1 ?_
 refine Wi rfl (fun hi12=>?_) (fun hi12=>?_)
 ·refine zu1 ?_
  refine zR ?_
  rw[show name=[45,82,79,84] from oT hi12];rfl
 refine Ws ?_
 refine zp1 ?_
 refine zq 23 ?_
 refine zs1 ?_
 refine Wi rfl (fun hi13=>?_) (fun hi13=>?_)
 ·refine Wj ?_
  refine Wt rfl hi13 ?_
  refine zu1 ?_
  refine zR ?_
  rw[show name=[50,83,87,65,80] from oT hi13];rfl
 refine aa rfl ?_
 refine z1 ?_
 refine zq 24 ?_
 refine zs1 ?_
 refine Wi rfl (fun hi14=>?_) (fun hi14=>?_)
 ·refine zu1 ?_
  refine zR ?_
  rw[show name=[50,79,86,69,82] from oT hi14];rfl
 refine Ws ?_
 refine zp1 ?_
 refine zq 26 ?_
 refine zs1 ?_
 refine Wi rfl (fun hi15=>?_) (fun hi15=>?_)
 ·have hq:cE name s=ij s:=by rw[show name=[80,73,67,75] from oT hi15];rfl
  refine Wj ?_
  refine Wt rfl hi15 ?_
  refine Ws ?_
  refine zp4 ?_
  refine Wb 31 rfl (fun hg1=>?_) (fun hg1=>?_)
  ·have h0:s.length=0:=by(try simp only[dnL]at *);omega
   iterate 7 refine z6 ?_
   refine zy2 ?_
   iterate 10 refine z6 ?_
   refine zs1 ?_
   refine Wt rfl rfl ?_
   refine zu4 ?_
   refine zR ?_
   rw[hq,ij,if_pos (.inl h0)];exact congrArg i64 (by((rw[aK];unfold wrap64;(try simp only[dnL]at *);omega)))
  have h0:¬s.length=0:=by(try simp only[dnL]at *);omega
  have w1:IntKind.i64.wrap ((s.length:Int)-1)=((s.length-1:Nat):Int):=by((rw[aK];unfold wrap64;(try simp only[dnL]at *);omega))
  refine zy4 ?_
  refine Wa 35 rfl (congrArg (fun z=>PV.val (Value.int .i64 z)) w1) ?_
  refine Wv tG rfl rfl rfl (by omega) (iN af 1 (fun _=>rfl) 0 (by omega)) ?_
  refine zy4 ?_
  refine Wb 40 rfl (fun hg2=>?_) (fun hg2=>?_)
  ·have h1:s.getD (s.length-1) 0<0:=oT hg2
   iterate 10 refine z6 ?_
   refine zs1 ?_
   refine Wt rfl rfl ?_
   refine zu4 ?_
   refine zR ?_
   rw[hq,ij,if_pos (.inr (.inl h1))];exact congrArg i64 (by((rw[aK];unfold wrap64;(try simp only[dnL]at *);omega)))
  have h1:¬s.getD (s.length-1) 0<0:=oF hg2
  refine zy4 ?_
  refine Wa 44 rfl (congrArg (fun z=>PV.val (Value.int .i64 z)) w1) ?_
  refine Wv tG rfl rfl rfl (by omega) (iN af 1 (fun _=>rfl) 0 (by omega)) ?_
  refine zy4 ?_
  refine Wa 49 rfl (congrArg (fun z=>PV.val (Value.int .i64 z)) w1) ?_
  refine zs2 ?_
  refine Wi rfl (fun hi16=>?_) (fun hi16=>?_)
  ·have h2:((s.length-1:Nat):Int)≤s.getD (s.length-1) 0:=oT hi16
   refine zu4 ?_
   refine zR ?_
   rw[hq,ij,if_pos (.inr (.inr (by omega)))];exact congrArg i64 (by((rw[aK];unfold wrap64;(try simp only[dnL]at *);omega)))
  have h2:¬((s.length-1:Nat):Int)≤s.getD (s.length-1) 0:=oF hi16
  refine Wj ?_
  refine zp4 ?_
  refine Wa 58 rfl (congrArg (fun z=>PV.val (Value.int .i64 z)) w1) ?_
  refine Wv tG rfl rfl rfl (by omega) (iN af 1 (fun _=>rfl) 0 (by omega)) ?_
  refine zs3 ?_
  refine zR ?_
  rw[hq,ij,if_neg (by rintro(h|h|h)<;>omega)];exact congrArg i64 (by((rw[aK];unfold wrap64;(try simp only[dnL]at *);omega)))
 refine aa rfl ?_
 refine z1 ?_
 refine zq 27 ?_
 refine zs1 ?_
 refine Wi rfl (fun hi17=>?_) (fun hi17=>?_)
 ·have hq:cE name s=ij s:=by rw[show name=[82,79,76,76] from oT hi17];rfl
  refine Ws ?_
  refine zp4 ?_
  refine Wb 31 rfl (fun hg1=>?_) (fun hg1=>?_)
  ·have h0:s.length=0:=by(try simp only[dnL]at *);omega
   iterate 7 refine z6 ?_
   refine zy2 ?_
   iterate 10 refine z6 ?_
   refine zs1 ?_
   refine Wt rfl rfl ?_
   refine zu4 ?_
   refine zR ?_
   rw[hq,ij,if_pos (.inl h0)];exact congrArg i64 (by((rw[aK];unfold wrap64;(try simp only[dnL]at *);omega)))
  have h0:¬s.length=0:=by(try simp only[dnL]at *);omega
  have w1:IntKind.i64.wrap ((s.length:Int)-1)=((s.length-1:Nat):Int):=by((rw[aK];unfold wrap64;(try simp only[dnL]at *);omega))
  refine zy4 ?_
  refine Wa 35 rfl (congrArg (fun z=>PV.val (Value.int .i64 z)) w1) ?_
  refine Wv tG rfl rfl rfl (by omega) (iN af 1 (fun _=>rfl) 0 (by omega)) ?_
  refine zy4 ?_
  refine Wb 40 rfl (fun hg2=>?_) (fun hg2=>?_)
  ·have h1:s.getD (s.length-1) 0<0:=oT hg2
   iterate 10 refine z6 ?_
   refine zs1 ?_
   refine Wt rfl rfl ?_
   refine zu4 ?_
   refine zR ?_
   rw[hq,ij,if_pos (.inr (.inl h1))];exact congrArg i64 (by((rw[aK];unfold wrap64;(try simp only[dnL]at *);omega)))
  have h1:¬s.getD (s.length-1) 0<0:=oF hg2
  refine zy4 ?_
  refine Wa 44 rfl (congrArg (fun z=>PV.val (Value.int .i64 z)) w1) ?_
  refine Wv tG rfl rfl rfl (by omega) (iN af 1 (fun _=>rfl) 0 (by omega)) ?_
  refine zy4 ?_
  refine Wa 49 rfl (congrArg (fun z=>PV.val (Value.int .i64 z)) w1) ?_
  refine zs2 ?_
  refine Wi rfl (fun hi16=>?_) (fun hi16=>?_)
  ·have h2:((s.length-1:Nat):Int)≤s.getD (s.length-1) 0:=oT hi16
   refine zu4 ?_
   refine zR ?_
   rw[hq,ij,if_pos (.inr (.inr (by omega)))];exact congrArg i64 (by((rw[aK];unfold wrap64;(try simp only[dnL]at *);omega)))
  have h2:¬((s.length-1:Nat):Int)≤s.getD (s.length-1) 0:=oF hi16
  refine Wj ?_
  refine zp4 ?_
  refine Wa 58 rfl (congrArg (fun z=>PV.val (Value.int .i64 z)) w1) ?_
  refine Wv tG rfl rfl rfl (by omega) (iN af 1 (fun _=>rfl) 0 (by omega)) ?_
  refine zs3 ?_
  refine zR ?_
  rw[hq,ij,if_neg (by rintro(h|h|h)<;>omega)];exact congrArg i64 (by((rw[aK];unfold wrap64;(try simp only[dnL]at *);omega)))
 refine Wj ?_
 refine zu1 ?_
 refine zR ?_
 rw[show cE name s = -1 from by unfold cE;simp only[oF hi1,oF hi2,oF hi3,oF hi4,oF hi5,oF hi6,oF hi7,oF hi8,oF hi9,oF hi10,oF hi11,oF hi12,oF hi13,oF hi14,oF hi15,oF hi17,if_false,or_false]];rfl
theorem oA{c:Prop}[Decidable c]{a b:List Int}{n:Nat}(ha:a.length≤n)(hb:b.length≤n):(if c then a else b).length≤n:=by split<;>assumption
theorem EF(name:Str)(x:List Int)(d:Nat):(ky name x d).length≤x.length+6:=by
 unfold ky
 iterate 10 refine oA (by simp) ?_
 refine oA (oA (by simp) (by simp)) ?_
 refine oA (by simp) ?_
 refine oA (by simp;omega) ?_
 exact oA (by simp;omega) (by simp)
theorem AT(name:Str)(s:List Int)(h:cE name s≤(s.length:Int))(h0:0≤cE name s):Is name≤(cE name s).toNat:=by
 by_cases h1:name=[68,85,80]
 ·subst h1;exact(show 1≤1 from Nat.le_refl _)
 by_cases h2:name=[83,87,65,80]
 ·subst h2;exact(show 2≤2 from Nat.le_refl _)
 by_cases h3:name=[79,86,69,82]
 ·subst h3;exact(show 2≤2 from Nat.le_refl _)
 by_cases h4:name=[78,73,80]
 ·subst h4;exact(show 2≤2 from Nat.le_refl _)
 by_cases h5:name=[84,85,67,75]
 ·subst h5;exact(show 2≤2 from Nat.le_refl _)
 by_cases h6:name=[82,79,84]
 ·subst h6;exact(show 3≤3 from Nat.le_refl _)
 by_cases h7:name=[45,82,79,84]
 ·subst h7;exact(show 3≤3 from Nat.le_refl _)
 by_cases h8:name=[50,68,85,80]
 ·subst h8;exact(show 2≤2 from Nat.le_refl _)
 by_cases h9:name=[50,83,87,65,80]
 ·subst h9;exact(show 4≤4 from Nat.le_refl _)
 by_cases h10:name=[50,79,86,69,82]
 ·subst h10;exact(show 4≤4 from Nat.le_refl _)
 by_cases h11:name=[63,68,85,80]
 ·subst h11;exact(show 1≤1 from Nat.le_refl _)
 by_cases h12:name=[68,69,80,84,72]
 ·subst h12;exact(show 0≤0 from Nat.le_refl _)
 by_cases h13:name=[80,73,67,75]
 ·subst h13
  have hp:cE [80,73,67,75] s=ij s:=rfl
  rw[hp]at h h0 ⊢
  show 2≤_
  unfold ij at h h0 ⊢
  split at h
  ·omega
  rename_i hc
  rw[if_neg hc];omega
 by_cases h14:name=[82,79,76,76]
 ·subst h14
  have hp:cE [82,79,76,76] s=ij s:=rfl
  rw[hp]at h h0 ⊢
  show 2≤_
  unfold ij at h h0 ⊢
  split at h
  ·omega
  rename_i hc
  rw[if_neg hc];omega
 rw[Is,if_neg h1,if_neg h2,if_neg h3,if_neg h4,if_neg h5,if_neg h6,if_neg h7,if_neg h8,if_neg h9,if_neg h10,if_neg h11,if_neg h12,if_neg h13,if_neg h14]
 exact Nat.zero_le _
theorem zj(name:Str)(s:List Int)(limit:Int)(hs:s.length≤50000)(hm : -9223372036854775808≤limit∧limit≤9223372036854775807):ab Tryz.prog 116 [str name,sq af s,i64 limit] (tZ (bR name s limit)):=by
 refine pW tG (rs:=[.tmp 6,.tmp 7,.tmp 8]) Tryz.func116 rfl rfl rfl (by simp) (by simp) (fun B=>?_)
 refine zu3 ?_
 refine zp2 ?_
 refine zc rfl Tryz.func160 ((GG name s (by omega)) _) ?_
 refine zs1 ?_
 refine Ws ?_
 refine zu2 ?_
 refine Wi rfl (fun hi1=>?_) (fun hi1=>?_)
 ·have h0:cE name s<0:=oT hi1
  refine zu4 ?_
  refine zR ?_
  rw[bR,if_pos h0];rfl
 have h0:¬cE name s<0:=oF hi1
 refine Wj ?_
 refine Ws ?_
 refine zu4 ?_
 refine Wi rfl (fun hi2=>?_) (fun hi2=>?_)
 ·have h1:(s.length:Int)<cE name s:=oT hi2
  refine zu4 ?_
  refine zR ?_
  rw[bR,if_neg h0,if_pos h1];rfl
 have h1:¬(s.length:Int)<cE name s:=oF hi2
 have w1:IntKind.i64.wrap ((s.length:Int)-cE name s)=((s.length-(cE name s).toNat:Nat):Int):=by((rw[aK];unfold wrap64;(try simp only[dnL]at *);omega))
 have hn:=AT name s (by omega) (by omega)
 have hll:=EF name (s.drop (s.length-(cE name s).toNat)) s.length
 refine Wj ?_
 refine Ws ?_
 refine ai [0,0,0,0,0,0,0,2,0,0,0,0,0,0,0,0,0,0,3,0] [0,1,2,3,4,5,6,8,9,10,11,12,13,14,15,16,7,17,18,19] mG rfl (by kernel_rfl) ?_
 iterate 6 refine z3 ?_
 refine Xa 27 rfl (congrArg (fun z=>PV.val (Value.int .i64 z)) w1) ?_
 refine z4 ?_ (q:=(by(simp_all;done)))
 refine Xa 28 rfl (bM af 1 (fun _=>rfl) (by omega)) ?_
 refine Xa 28 rfl ((show _=sq af (s.take (s.length-(cE name s).toNat)) by rw[Int.toNat_natCast,List.drop_zero];rfl)) ?_
 iterate 6 refine z3 ?_
 refine Xa 35 rfl (congrArg (fun z=>PV.val (Value.int .i64 z)) w1) ?_
 refine z4 ?_ (q:=(by(simp_all;done)))
 refine Xa 36 rfl (bM af 1 (fun _=>rfl) (by omega)) ?_
 refine Xa 36 rfl ((show _=sq af (s.drop (s.length-(cE name s).toNat)) by rw[List.take_length,Int.toNat_natCast];rfl)) ?_
 iterate 2 refine z3 ?_
 refine je rfl rfl rfl rfl (aC (lO tG rfl) rfl (lO tG rfl) (lO tG rfl) rfl rfl (by exact⟨_,rfl⟩) (by exact⟨rfl,rfl,ag _ 1 (fun _=>rfl) _,aB _ (fun _=>rfl) _⟩) (by rfl) (by(simp;omega)) (by(simp;omega))) ?_
 refine Xa 29 rfl (i4 af) ?_
 refine Xc rfl rfl rfl rfl (fun _=>dC rfl Tryz.func161 rfl rfl ((Hf name _ s.length (by simp only[List.length_drop];omega) (by simp;omega)) _)) ?_
 refine ej rfl rfl rfl rfl (aF (lO tG rfl) rfl (lO tG rfl) (lO tG rfl) rfl rfl rfl rfl (by simp) (by exact⟨_,rfl⟩) (by exact⟨rfl,rfl,ag _ 1 (fun _=>rfl) _,aB _ (fun _=>rfl) _⟩) (by(simp only[List.length_take];simp at hll;omega)) (by(simp only[List.length_take];simp at hll;omega))) ?_
 refine Xa 40 rfl (aM af) ?_
 refine z3 ?_
 refine ah ?_
 refine Ws ?_
 refine zu4 ?_
 refine Wi rfl (fun hi3=>?_) (fun hi3=>?_)
 ·have h2:limit<((s.length-(cE name s).toNat+(ky name (s.drop (s.length-(cE name s).toNat)) s.length).length:Nat):Int):=by(try simp only[dnL]at *);simp only[List.length_append,List.length_take]at hi3;omega
  refine zu4 ?_
  refine zR ?_
  rw[bR,if_neg h0,if_neg h1,if_pos h2];rfl
 have h2:¬limit<((s.length-(cE name s).toNat+(ky name (s.drop (s.length-(cE name s).toNat)) s.length).length:Nat):Int):=by(try simp only[dnL]at *);simp only[List.length_append,List.length_take]at hi3;omega
 refine Wj ?_
 refine zu4 ?_
 refine zR ?_
 rw[bR,if_neg h0,if_neg h1,if_neg h2];rfl
theorem cQ{name:Str}{s:List Int}{limit:Int}{tk:Nat}{lv:List Int}(h1:cE name s=(tk:Int))(h2:ky name (s.drop (s.length-tk)) s.length=lv):
  bR name s limit=if s.length<tk then(s,true,-4)else jC s tk lv limit:=by
 have e:(cE name s).toNat=tk:=by rw[h1];rfl
 unfold bR
 rw[e,h2,h1,if_neg (by omega)]
 by_cases h:s.length<tk
 ·rw[if_pos h,if_pos (by omega)]
 rw[if_neg h,if_neg (by omega)]
 unfold jC
 rfl
theorem Gc(s:List Int)(limit:Int)(hs:s.length≤100000)(hm : -9223372036854775808≤limit∧limit≤9223372036854775807):ab Tryz.prog 99 [str [68,69,80,84,72],sq af s,i64 limit] (tZ (bR [68,69,80,84,72] s limit)):=by
 refine pW tG (rs:=[.tmp 6,.tmp 7,.tmp 8]) Tryz.func99 rfl rfl rfl (by simp) (by simp) (fun B=>?_)
 refine zu3 ?_
 refine Ws ?_
 refine zu1 ?_
 refine Wl ?_
 refine zp1 ?_
 refine zq 17 ?_
 refine zs1 ?_
 refine Wt rfl (by decide) ?_
 refine zp4 ?_
 refine Wa 21 rfl (bsL af [_] rfl rfl) ?_
 refine z1 ?_
 refine zc rfl Tryz.func136 ((lX s 0 _ limit hs (by omega) (by simp) hm) _) ?_
 refine zy5 ?_
 refine zs1 ?_
 refine zR ?_
 rw[cQ (tk:=0) (lv:=[(s.length:Int)]) rfl rfl,if_neg (by omega)];rfl
theorem uR{s:List Int}{k:Nat}:(s.drop k).getD 0 0=s.getD k 0:=by unfold List.getD;rw[List.getElem?_drop];rfl
theorem Co{s:List Int}{k n:Nat}(h:k<n):(s.take n).getD k 0=s.getD k 0:=by unfold List.getD;rw[List.getElem?_take,if_pos h]
theorem Kb{name:Str}{s:List Int}{limit:Int}{roll:Bool}(hp:cE name s=ij s)(hc:s.length=0∨s.getD (s.length-1) 0<0∨(s.length:Int)-1≤s.getD (s.length-1) 0):gR s roll limit=bR name s limit:=by
 have e:ij s=(s.length:Int)+1:=by rw[ij,if_pos hc]
 unfold bR
 rw[hp,e,if_neg (by omega),if_pos (by omega)]
 unfold gR
 rw[if_pos]
 unfold ba
 split
 ·exact .inl (by simp)
 rename_i h0
 refine .inr ?_
 rcases hc with hc|hc|hc
 ·exact absurd hc h0
 ·exact .inl hc
 refine .inr ?_
 simp only[List.length_take];omega
theorem FJ{name:Str}{s:List Int}{limit:Int}{roll:Bool}(hp:cE name s=ij s)(hl:∀x d,ky name x d=if roll then(x.take (x.length-1)).drop 1++[xat x 0]else x.take (x.length-1)++[xat x 0])
  (hc:¬(s.length=0∨s.getD (s.length-1) 0<0∨(s.length:Int)-1≤s.getD (s.length-1) 0)):gR s roll limit=bR name s limit:=by
 have h0:s.length≠0:=fun h=>hc (.inl h)
 obtain⟨t,ht⟩:∃t:Nat,s.getD (s.length-1) 0=t:=⟨(s.getD (s.length-1) 0).toNat,by have:¬s.getD (s.length-1) 0<0:=fun h=>hc (.inr (.inl h));omega⟩
 have hlt:t+2≤s.length:=by have:¬((s.length:Int)-1≤s.getD (s.length-1) 0):=fun h=>hc (.inr (.inr h));omega
 have e:ij s=((t+2:Nat):Int):=by rw[ij,if_neg hc,ht];rfl
 have hd:(s.drop (s.length-(t+2))).length=t+2:=by rw[List.length_drop];omega
 have hx:xat (s.drop (s.length-(t+2))) 0=s.getD (s.length-(t+2)) 0:=uR
 have hpop:ba s=((t:Int),s.take (s.length-1),0):=by unfold ba;rw[if_neg h0,ht]
 rw[cQ (tk:=t+2) (hp.trans e) (hl _ _),if_neg (by omega)]
 unfold gR
 rw[hpop]
 simp only[List.length_take,Int.toNat_natCast,Nat.min_eq_left (show s.length-1≤s.length by omega)]
 rw[if_neg (by rintro(h|h|h)<;>omega),hd,hx]
 have e1:s.length-1-1-t=s.length-(t+2):=by omega
 rw[e1,Co (by omega)]
 cases roll with
 | true =>
  simp only[if_true]
  congr 2
  rw[List.drop_take,List.drop_take,List.drop_drop]
  have e2:s.length-(t+2)+1=s.length-(t+2)+1:=rfl
  have e3:s.length-1-(s.length-(t+2)+1)=t+2-1-1:=by omega
  rw[e3]
 | false =>
  simp only[Bool.false_eq_true,if_false]
  unfold jC
  have hl1:((s.drop (s.length-(t+2))).take (t+2-1)++[s.getD (s.length-(t+2)) 0]).length=t+2:=by rw[List.length_append,List.length_take,hd];simp
  have e2:s.length-(t+2)+((s.drop (s.length-(t+2))).take (t+2-1)++[s.getD (s.length-(t+2)) 0]).length=s.length-1+[s.getD (s.length-(t+2)) 0].length:=by rw[hl1];simp;omega
  rw[e2,←List.append_assoc,←List.take_add]
  have e3:s.length-(t+2)+(t+2-1)=s.length-1:=by omega
  rw[e3]
theorem qk{name:Str}{s:List Int}{limit:Int}{roll:Bool}(hp:cE name s=ij s)(hl:∀x d,ky name x d=if roll then(x.take (x.length-1)).drop 1++[xat x 0]else x.take (x.length-1)++[xat x 0]):
  gR s roll limit=bR name s limit:=by
 by_cases hc:s.length=0∨s.getD (s.length-1) 0<0∨(s.length:Int)-1≤s.getD (s.length-1) 0
 ·exact Kb hp hc
 exact FJ hp hl hc
theorem JI(s:List Int)(limit:Int)(hs:s.length≤100000)(hm : -9223372036854775808≤limit∧limit≤9223372036854775807):ab Tryz.prog 99 [str [80,73,67,75],sq af s,i64 limit] (tZ (gR s false limit)):=by
 refine pW tG (rs:=[.tmp 6,.tmp 7,.tmp 8]) Tryz.func99 rfl rfl rfl (by simp) (by simp) (fun B=>?_)
 refine zu3 ?_
 refine Ws ?_
 refine zu1 ?_
 refine Wl ?_
 refine zp1 ?_
 refine zq 17 ?_
 refine zs1 ?_
 refine Wf rfl (by decide) ?_
 refine Ws ?_
 refine zp1 ?_
 refine zq 28 ?_
 refine zs1 ?_
 refine Wt rfl (by decide) ?_
 refine Wj ?_
 refine Wt rfl (by decide) ?_
 refine zp3 ?_
 refine zq 32 ?_
 refine z1 ?_
 refine zc rfl Tryz.func137 ((Av s _ limit hs hm) _) ?_
 refine zy5 ?_
 refine zs1 ?_
 refine zR ?_
 rfl
theorem Hu(s:List Int)(limit:Int)(hs:s.length≤100000)(hm : -9223372036854775808≤limit∧limit≤9223372036854775807):ab Tryz.prog 99 [str [82,79,76,76],sq af s,i64 limit] (tZ (gR s true limit)):=by
 refine pW tG (rs:=[.tmp 6,.tmp 7,.tmp 8]) Tryz.func99 rfl rfl rfl (by simp) (by simp) (fun B=>?_)
 refine zu3 ?_
 refine Ws ?_
 refine zu1 ?_
 refine Wl ?_
 refine zp1 ?_
 refine zq 17 ?_
 refine zs1 ?_
 refine Wf rfl (by decide) ?_
 refine Ws ?_
 refine zp1 ?_
 refine zq 28 ?_
 refine zs1 ?_
 refine Wf rfl (by decide) ?_
 refine aa rfl ?_
 refine z1 ?_
 refine zq 29 ?_
 refine zs1 ?_
 refine Wt rfl (by decide) ?_
 refine zp3 ?_
 refine zq 32 ?_
 refine z1 ?_
 refine zc rfl Tryz.func137 ((Av s _ limit hs hm) _) ?_
 refine zy5 ?_
 refine zs1 ?_
 refine zR ?_
 rfl
def we(s:List Int)(limit:Int):List Int×Bool×Int :=
 if s.length=0 then(s,true,-4)else jC s 1 (if s.getD (s.length-1) 0=0 then [xat (s.drop (s.length-1)) 0]else [xat (s.drop (s.length-1)) 0,xat (s.drop (s.length-1)) 0]) limit
theorem Jc(s:List Int)(limit:Int)(hs:s.length≤100000)(hm : -9223372036854775808≤limit∧limit≤9223372036854775807):ab Tryz.prog 99 [str [63,68,85,80],sq af s,i64 limit] (tZ (we s limit)):=by
 refine pW tG (rs:=[.tmp 6,.tmp 7,.tmp 8]) Tryz.func99 rfl rfl rfl (by simp) (by simp) (fun B=>?_)
 refine zu3 ?_
 refine Ws ?_
 refine zu1 ?_
 refine Wl ?_
 refine zp1 ?_
 refine zq 17 ?_
 refine zs1 ?_
 refine Wf rfl (by decide) ?_
 refine Ws ?_
 refine zp1 ?_
 refine zq 28 ?_
 refine zs1 ?_
 refine Wf rfl (by decide) ?_
 refine aa rfl ?_
 refine z1 ?_
 refine zq 29 ?_
 refine zs1 ?_
 refine Wf rfl (by decide) ?_
 refine Wj ?_
 refine z8 ?_
 refine zc rfl Tryz.func138 ((ur) _) ?_
 refine z1 ?_
 refine Wd rfl rfl (bi (b:=true) (e:=200) (key:=.s [63,68,85,80]) (by kernel_rfl) (lO tG rfl) (by kernel_rfl) rfl rfl rfl rfl (by kernel_rfl) ((show ii yG tO (.s [63,68,85,80]) (PV.agg [i64 0,str []])=(PV.agg [i64 0,str []],false) from rfl))) ?_
 refine zy5 ?_
 refine zs1 ?_
 refine Ws ?_
 refine zp2 ?_
 refine zq 45 ?_
 refine Wn ?_
 refine Wt rfl (by decide) ?_
 refine zu3 ?_
 refine zp4 ?_
 refine Wb 50 rfl (fun hg1=>?_) (fun hg1=>?_)
 ·have h0:¬s.length=0:=by(try simp only[dnL]at *);omega
  have w1:IntKind.i64.wrap ((s.length:Int)-1)=((s.length-1:Nat):Int):=by((rw[aK];unfold wrap64;(try simp only[dnL]at *);omega))
  refine zy4 ?_
  refine Wa 54 rfl (congrArg (fun z=>PV.val (Value.int .i64 z)) w1) ?_
  refine Wv tG rfl rfl rfl (by omega) (iN af 1 (fun _=>rfl) 0 (by omega)) ?_
  refine zs3 ?_
  refine Wi rfl (fun hi5=>?_) (fun hi5=>?_)
  ·have h1:s.getD (s.length-1) 0=0:=oT hi5
   refine aa rfl ?_
   refine zs2 ?_
   refine Ws ?_
   refine zu2 ?_
   refine Wf rfl rfl ?_
   refine Wj ?_
   refine Ws ?_
   refine zu5 ?_
   refine Wf rfl (by(simp only[dnL]at *;omega)) ?_
   refine Wj ?_
   refine zp5 ?_
   refine z1 ?_
   refine Wa 74 rfl (congrArg (fun z=>PV.val (Value.int .i64 z)) w1) ?_
   refine z2 ?_ (q:=(by(simp_all;done)))
   refine Wa 75 rfl (bM af 1 (fun _=>rfl) (by omega)) ?_
   refine Wa 75 rfl ((show _=sq af (s.drop (s.length-1)) by rw[List.take_length,Int.toNat_natCast];rfl)) ?_
   refine zs1 ?_
   refine zu1 ?_
   refine Ws ?_
   refine zp2 ?_
   refine Wd rfl rfl (lq (lO tG rfl) rfl rfl rfl) ?_
   refine Wn ?_
   refine Wl ?_
   refine ia 4 ?_
   show W _ _ _ _ _ _ _
   refine z8 ?_
   refine Wd rfl rfl (oQ rfl rfl rfl (by decide) (by decide)) ?_
   refine zs1 ?_
   refine Ws ?_
   refine Wt rfl rfl ?_
   refine Wj ?_
   refine Wl ?_
   refine zu2 ?_
   refine aa rfl ?_
   refine zy4 ?_
   refine Wa 85 rfl ((show _=PV.val (.int .i32 0) from rfl)) ?_
   refine Wv tG rfl rfl rfl (by simp only[List.length_drop];omega) (iN af 1 (fun _=>rfl) 0 (by simp only[List.length_drop];omega)) ?_
   refine zy2 ?_
   refine Wa 88 rfl (bsL af [_] rfl rfl) ?_
   refine Wd rfl rfl (aC (lO tG rfl) rfl (lO tG rfl) (lO tG rfl) rfl rfl (by exact⟨_,rfl⟩) (by exact⟨rfl,rfl,ag _ 1 (fun _=>rfl) _,aB _ (fun _=>rfl) _⟩) (by rfl) (by((simp_all;done))) (by((simp_all;done)))) ?_
   refine Wa 89 rfl (He af _) ?_
   refine zs1 ?_
   show W _ _ _ _ _ _ _
   refine z8 ?_
   refine Wd rfl rfl (lr rfl rfl rfl (by decide)) ?_
   refine zs1 ?_
   refine Ws ?_
   refine Wf rfl rfl ?_
   refine aN ?_
   refine zp5 ?_
   refine zc rfl Tryz.func136 ((lX s 1 _ limit hs (by omega) (by simp) hm) _) ?_
   refine zy5 ?_
   refine zs1 ?_
   refine zR ?_
   rw[we,if_neg h0,if_pos h1];rfl
  have h1:¬s.getD (s.length-1) 0=0:=oF hi5
  refine Wj ?_
  refine Ws ?_
  refine zu2 ?_
  refine Wf rfl rfl ?_
  refine Wj ?_
  refine Ws ?_
  refine zu5 ?_
  refine Wf rfl (by(simp only[dnL]at *;omega)) ?_
  refine Wj ?_
  refine zp5 ?_
  refine z1 ?_
  refine Wa 74 rfl (congrArg (fun z=>PV.val (Value.int .i64 z)) w1) ?_
  refine z2 ?_ (q:=(by(simp_all;done)))
  refine Wa 75 rfl (bM af 1 (fun _=>rfl) (by omega)) ?_
  refine Wa 75 rfl ((show _=sq af (s.drop (s.length-1)) by rw[List.take_length,Int.toNat_natCast];rfl)) ?_
  refine zs1 ?_
  refine zu1 ?_
  refine Ws ?_
  refine zp2 ?_
  refine Wd rfl rfl (lq (lO tG rfl) rfl rfl rfl) ?_
  refine Wn ?_
  refine Wl ?_
  refine ia 4 ?_
  show W _ _ _ _ _ _ _
  refine z8 ?_
  refine Wd rfl rfl (oQ rfl rfl rfl (by decide) (by decide)) ?_
  refine zs1 ?_
  refine Ws ?_
  refine Wt rfl rfl ?_
  refine Wj ?_
  refine Wl ?_
  refine zu2 ?_
  refine aa rfl ?_
  refine zy4 ?_
  refine Wa 85 rfl ((show _=PV.val (.int .i32 0) from rfl)) ?_
  refine Wv tG rfl rfl rfl (by simp only[List.length_drop];omega) (iN af 1 (fun _=>rfl) 0 (by simp only[List.length_drop];omega)) ?_
  refine zy2 ?_
  refine Wa 88 rfl (bsL af [_] rfl rfl) ?_
  refine Wd rfl rfl (aC (lO tG rfl) rfl (lO tG rfl) (lO tG rfl) rfl rfl (by exact⟨_,rfl⟩) (by exact⟨rfl,rfl,ag _ 1 (fun _=>rfl) _,aB _ (fun _=>rfl) _⟩) (by rfl) (by((simp_all;done))) (by((simp_all;done)))) ?_
  refine Wa 89 rfl (He af _) ?_
  refine zs1 ?_
  show W _ _ _ _ _ _ _
  refine z8 ?_
  refine Wd rfl rfl (oQ rfl rfl rfl (by decide) (by decide)) ?_
  refine zs1 ?_
  refine Ws ?_
  refine Wt rfl rfl ?_
  refine Wj ?_
  refine Wl ?_
  refine zu2 ?_
  refine aa rfl ?_
  refine zy4 ?_
  refine Wa 85 rfl ((show _=PV.val (.int .i32 0) from rfl)) ?_
  refine Wv tG rfl rfl rfl (by simp only[List.length_drop];omega) (iN af 1 (fun _=>rfl) 0 (by simp only[List.length_drop];omega)) ?_
  refine zy2 ?_
  refine Wa 88 rfl (bsL af [_] rfl rfl) ?_
  refine Wd rfl rfl (aF (lO tG rfl) rfl (lO tG rfl) (lO tG rfl) rfl rfl rfl rfl (by simp) (by exact⟨_,rfl⟩) (by exact⟨rfl,rfl,ag _ 1 (fun _=>rfl) _,aB _ (fun _=>rfl) _⟩) (by((simp_all;done))) (by((simp_all;done)))) ?_
  refine Wa 89 rfl (aM af) ?_
  refine zs1 ?_
  show W _ _ _ _ _ _ _
  refine z8 ?_
  refine Wd rfl rfl (lr rfl rfl rfl (by decide)) ?_
  refine zs1 ?_
  refine Ws ?_
  refine Wf rfl rfl ?_
  refine aN ?_
  refine zp5 ?_
  refine zc rfl Tryz.func136 ((lX s 1 _ limit hs (by omega) (by simp) hm) _) ?_
  refine zy5 ?_
  refine zs1 ?_
  refine zR ?_
  rw[we,if_neg h0,if_neg h1];rfl
 have h0:s.length=0:=by(try simp only[dnL]at *);omega
 have w1:IntKind.i64.wrap ((s.length:Int)-1) = -1:=by((rw[aK];unfold wrap64;(try simp only[dnL]at *);omega))
 iterate 7 refine z6 ?_
 refine zs1 ?_
 refine Wf rfl rfl ?_
 refine Wj ?_
 refine Ws ?_
 refine zu2 ?_
 refine Wf rfl rfl ?_
 refine Wj ?_
 refine Ws ?_
 refine zu5 ?_
 refine Wt rfl (by(simp only[dnL]at *;omega)) ?_
 refine zu4 ?_
 refine zR ?_
 rw[we,if_pos h0];rfl
def lE:List Str:=[[68,85,80],[68,82,79,80],[83,87,65,80],[79,86,69,82],[78,73,80],[84,85,67,75],[82,79,84],[45,82,79,84],[50,68,85,80],[50,68,82,79,80],[50,83,87,65,80],[50,79,86,69,82],[63,68,85,80],[80,73,67,75],[82,79,76,76],[68,69,80,84,72]]
theorem yy(s:List Int)(limit:Int):we s limit=bR [63,68,85,80] s limit:=by
 rw[cQ (tk:=1) (lv:=if xat (s.drop (s.length-1)) 0=0 then s.drop (s.length-1)else [xat (s.drop (s.length-1)) 0,xat (s.drop (s.length-1)) 0]) rfl rfl]
 unfold we
 by_cases h0:s.length=0
 ·rw[if_pos h0,if_pos (show s.length<1 by omega)]
 rw[if_neg h0,if_neg (show ¬s.length<1 by omega)]
 have hx:xat (s.drop (s.length-1)) 0=s.getD (s.length-1) 0:=uR
 have hd:s.drop (s.length-1)=[s.getD (s.length-1) 0]:=by
  rw[List.drop_eq_getElem_cons (by omega),show s.length-1+1=s.length by omega,List.drop_length]
  simp[List.getD,List.getElem?_eq_getElem (show s.length-1<s.length by omega)]
 rw[hx,hd]
theorem zw(name:Str)(hn:name∈lE)(s:List Int)(limit:Int)(hs:s.length≤100000)(hm : -9223372036854775808≤limit∧limit≤9223372036854775807):ab Tryz.prog 99 [str name,sq af s,i64 limit] (tZ (bR name s limit)):=by
 simp only[lE,List.mem_cons,List.not_mem_nil,or_false]at hn
 rcases hn with rfl|rfl|rfl|rfl|rfl|rfl|rfl|rfl|rfl|rfl|rfl|rfl|rfl|rfl|rfl|rfl
 ·rw[cQ (tk:=1) (lv:=([97,97]:Str).map fun c=>(s.drop (s.length-1)).getD (c.toNat-97) 0) rfl rfl]
  exact fV _ s limit 1 [97,97] hs hm (by decide) (by decide) (by decide) (by decide) rfl (by decide) (by decide) (by decide)
 ·rw[cQ (tk:=1) (lv:=([]:Str).map fun c=>(s.drop (s.length-1)).getD (c.toNat-97) 0) rfl rfl]
  exact fV _ s limit 1 [] hs hm (by decide) (by decide) (by decide) (by decide) rfl (by decide) (by decide) (by decide)
 ·rw[cQ (tk:=2) (lv:=([98,97]:Str).map fun c=>(s.drop (s.length-2)).getD (c.toNat-97) 0) rfl rfl]
  exact fV _ s limit 2 [98,97] hs hm (by decide) (by decide) (by decide) (by decide) rfl (by decide) (by decide) (by decide)
 ·rw[cQ (tk:=2) (lv:=([97,98,97]:Str).map fun c=>(s.drop (s.length-2)).getD (c.toNat-97) 0) rfl rfl]
  exact fV _ s limit 2 [97,98,97] hs hm (by decide) (by decide) (by decide) (by decide) rfl (by decide) (by decide) (by decide)
 ·rw[cQ (tk:=2) (lv:=([98]:Str).map fun c=>(s.drop (s.length-2)).getD (c.toNat-97) 0) rfl rfl]
  exact fV _ s limit 2 [98] hs hm (by decide) (by decide) (by decide) (by decide) rfl (by decide) (by decide) (by decide)
 ·rw[cQ (tk:=2) (lv:=([98,97,98]:Str).map fun c=>(s.drop (s.length-2)).getD (c.toNat-97) 0) rfl rfl]
  exact fV _ s limit 2 [98,97,98] hs hm (by decide) (by decide) (by decide) (by decide) rfl (by decide) (by decide) (by decide)
 ·rw[cQ (tk:=3) (lv:=([98,99,97]:Str).map fun c=>(s.drop (s.length-3)).getD (c.toNat-97) 0) rfl rfl]
  exact fV _ s limit 3 [98,99,97] hs hm (by decide) (by decide) (by decide) (by decide) rfl (by decide) (by decide) (by decide)
 ·rw[cQ (tk:=3) (lv:=([99,97,98]:Str).map fun c=>(s.drop (s.length-3)).getD (c.toNat-97) 0) rfl rfl]
  exact fV _ s limit 3 [99,97,98] hs hm (by decide) (by decide) (by decide) (by decide) rfl (by decide) (by decide) (by decide)
 ·rw[cQ (tk:=2) (lv:=([97,98,97,98]:Str).map fun c=>(s.drop (s.length-2)).getD (c.toNat-97) 0) rfl rfl]
  exact fV _ s limit 2 [97,98,97,98] hs hm (by decide) (by decide) (by decide) (by decide) rfl (by decide) (by decide) (by decide)
 ·rw[cQ (tk:=2) (lv:=([]:Str).map fun c=>(s.drop (s.length-2)).getD (c.toNat-97) 0) rfl rfl]
  exact fV _ s limit 2 [] hs hm (by decide) (by decide) (by decide) (by decide) rfl (by decide) (by decide) (by decide)
 ·rw[cQ (tk:=4) (lv:=([99,100,97,98]:Str).map fun c=>(s.drop (s.length-4)).getD (c.toNat-97) 0) rfl rfl]
  exact fV _ s limit 4 [99,100,97,98] hs hm (by decide) (by decide) (by decide) (by decide) rfl (by decide) (by decide) (by decide)
 ·rw[cQ (tk:=4) (lv:=([97,98,99,100,97,98]:Str).map fun c=>(s.drop (s.length-4)).getD (c.toNat-97) 0) rfl rfl]
  exact fV _ s limit 4 [97,98,99,100,97,98] hs hm (by decide) (by decide) (by decide) (by decide) rfl (by decide) (by decide) (by decide)
 ·rw[←yy];exact Jc s limit hs hm
 ·rw[←qk (name:=[80,73,67,75]) (roll:=false) rfl (fun _ _=>rfl)];exact JI s limit hs hm
 ·rw[←qk (name:=[82,79,76,76]) (roll:=true) rfl (fun _ _=>rfl)];exact Hu s limit hs hm
 exact Gc s limit hs hm
theorem oW(n:Int):ab Tryz.prog 51 [i64 n] (boo (decide (23≤n∧n≤129))):=by
 refine pW tG (rs:=[.tmp 2]) Tryz.func51 rfl rfl rfl (by simp) (by simp) (fun B=>?_)
 refine zu1 ?_
 refine zp3 ?_
 refine Wb 5 rfl (fun hg1=>?_) (fun hg1=>?_)
 ·have h0:23≤n:=oT hg1
  refine zs4 ?_
  refine zR ?_
  exact congrArg boo (by rw[Bool.eq_iff_iff,decide_eq_true_eq,decide_eq_true_eq];omega)
 have h0:¬23≤n:=oF hg1
 iterate 2 refine z6 ?_
 refine zs2 ?_
 refine zR ?_
 exact congrArg boo (decide_eq_false (by omega)).symm
theorem Tu(name:Str)(x:List Int)(hx:XOk 2 x):ab Tryz.prog 140 ([sq af x]++[.row [str name]]) (tLv ([(gn name (xat x 0) (xat x 1)).1],(gn name (xat x 0) (xat x 1)).2.2)):=by
 have hl:=hx.len
 refine pW tG (rs:=[.tmp 3,.tmp 4]) Tryz.func140 rfl rfl rfl (by simp) (by simp) (fun B=>?_)
 refine zu2 ?_
 refine Ws ?_
 refine ai [1,0,0,1,0,0,1,0,0,0,0,0,0,0,0] [0,1,2,3,4,5,6,7,8,9,10,11,12,13,14] mG rfl (by kernel_rfl) ?_
 refine z5 ?_
 refine z3 ?_
 refine z9i ?_
 refine z5 ?_
 refine z3 ?_
 refine z9i ?_
 refine z5 ?_
 refine Xc rfl rfl rfl rfl (fun _=>dC rfl Tryz.func141 rfl rfl ((M5 name _ _ (hx.fit 1)) _)) ?_
 iterate 7 refine z3 ?_
 refine ah ?_
 refine zp2 ?_
 refine Wa 21 rfl (bsL af [_] rfl rfl) ?_
 refine zs3 ?_
 refine zR ?_
 rfl
theorem Ta(name:Str)(x:List Int)(hx:XOk 1 x):ab Tryz.prog 142 ([sq af x]++[.row [str name]]) (tLv ([(nD name (xat x 0)).1],0)):=by
 have hl:=hx.len
 refine pW tG (rs:=[.tmp 3,.tmp 4]) Tryz.func142 rfl rfl rfl (by simp) (by simp) (fun B=>?_)
 refine zu2 ?_
 refine Ws ?_
 refine ai [1,0,0,1,0,0,0,0,0,0] [0,1,2,3,4,5,6,7,8,9] mG rfl (by kernel_rfl) ?_
 refine z5 ?_
 refine z3 ?_
 refine z9i ?_
 refine z5 ?_
 refine Xc rfl rfl rfl rfl (fun _=>dC rfl Tryz.func143 rfl rfl ((Ej name _ (hx.fit 0)) _)) ?_
 iterate 5 refine z3 ?_
 refine ah ?_
 refine zp2 ?_
 refine Wa 16 rfl (bsL af [_] rfl rfl) ?_
 refine zc rfl Tryz.func144 ((jy _) _) ?_
 refine zs4 ?_
 refine zR ?_
 rfl
theorem E9(n:Int)(name:Str)(hn:n≤58):ab Tryz.prog 100 [i64 n,str name] (bb 2 178 [.row [fnP 140 [.row [str name]]]]):=by
 refine pW tG (rs:=[.cell 4 155]) Tryz.func100 rfl rfl rfl (by simp) (by simp) (fun B=>?_)
 refine zp1 ?_
 refine bJ 3 _ rfl rfl rfl ?_
 refine zs1 ?_
 refine Ws ?_
 refine Wl ?_
 refine zu3 ?_
 refine Wt rfl (by exact decide_eq_true hn) ?_
 refine zp1 ?_
 refine zc rfl Tryz.func139 ((gJ 2 140 [.row [str name]] (by simp)) _) ?_
 refine zs1 ?_
 refine zR ?_
 rfl
theorem EE(n:Int)(name:Str)(h0:58<n)(hn:n≤72):ab Tryz.prog 100 [i64 n,str name] (bb 1 178 [.row [fnP 142 [.row [str name]]]]):=by
 refine pW tG (rs:=[.cell 4 155]) Tryz.func100 rfl rfl rfl (by simp) (by simp) (fun B=>?_)
 refine zp1 ?_
 refine bJ 3 _ rfl rfl rfl ?_
 refine zs1 ?_
 refine Ws ?_
 refine Wl ?_
 refine zu3 ?_
 refine Wf rfl (by exact decide_eq_false (by omega)) ?_
 refine zu3 ?_
 refine Wt rfl (by exact decide_eq_true hn) ?_
 refine zp1 ?_
 refine zc rfl Tryz.func139 ((gJ 1 142 [.row [str name]] (by simp)) _) ?_
 refine zs1 ?_
 refine zR ?_
 rfl
def doR(v:VVm)(k:Nat)(r:VVm×List Int×Int):VVm×Int :=
 if v.d.length<k then(v,-4)else if r.2.2≠0 then(v,r.2.2)else
 if v.conf.data<((v.d.length-k+r.2.1.length:Nat):Int)then(v,-3)else({r.1 with d:=v.d.take (v.d.length-k)++r.2.1},0)
theorem P2(v:VVm)(n:Int)(hn:¬(23≤n∧n≤129)):ab Tryz.prog 52 [eVm v,i64 n] (tVm (v,-24)):=by
 refine pW tG (rs:=[.cell 4 36,.tmp 5]) Tryz.func52 rfl rfl rfl (by simp) (by simp) (fun B=>?_)
 refine zu3 ?_
 refine Ws ?_
 refine zp1 ?_
 refine zc rfl Tryz.func51 ((oW n) _) ?_
 refine zs1 ?_
 refine Wt rfl (by rw[decide_eq_false hn];rfl) ?_
 refine zu3 ?_
 refine zR ?_
 rfl
theorem kg:ao.length=130:=jq
theorem C5(v:VVm)(n:Int)(h0:23≤n)(h1:n≤38)(hs:ao.getD n.toNat []∈lE)(hd:v.d.length≤100000)(hm:ae v.conf.data):
  ab Tryz.prog 52 [eVm v,i64 n] (tVm ({v with d:=(bR (ao.getD n.toNat []) v.d v.conf.data).1},(bR (ao.getD n.toNat []) v.d v.conf.data).2.2)):=by
 have hN:=kg
 refine pW tG (rs:=[.cell 4 36,.tmp 5]) Tryz.func52 rfl rfl rfl (by simp) (by simp) (fun B=>?_)
 refine zu3 ?_
 refine Ws ?_
 refine zp1 ?_
 refine zc rfl Tryz.func51 ((oW n) _) ?_
 refine zs1 ?_
 refine Wf rfl (by rw[decide_eq_true ⟨h0,by omega⟩];rfl) ?_
 refine Wj ?_
 refine z8 ?_
 refine zc rfl Tryz.func54 ((nL) _) ?_
 refine z1 ?_
 refine Wv tG rfl rfl rfl (by omega) (iR fP 1 (fun _=>rfl) [] (by omega)) ?_
 refine zs2 ?_
 refine zu3 ?_
 refine Ws ?_
 refine zu2 ?_
 refine Wt rfl (by exact decide_eq_true h1) ?_
 refine zp5 ?_
 refine z1 ?_
 refine zc rfl Tryz.func99 ((zw _ hs _ _ hd hm) _) ?_
 refine zy5 ?_
 refine zs2 ?_
 refine zu3 ?_
 refine zu4 ?_
 refine zR ?_
 rfl
theorem aR(v:VVm)(n:Int)(k:Nat)(f:FuncId)(cap:List PV)(r:VVm×List Int×Int)(h0:39≤n)(h1:n≤129)(hdl:v.d.length≤100000)(hm:ae v.conf.data)(hk:k≤10)(hc:aL cap)
  (hf:ab Tryz.prog 100 [i64 n,str (ao.getD n.toNat [])] (bb k f cap)) (hr:r.2.1.length≤10)
  (hd:k≤v.d.length→∀(H:List Ob) (i:Nat),H[i]?=some (.cells (cVm v) 36)→uF Tryz.prog f (.ptr i 0::([sq af (v.d.drop (v.d.length-k))]++cap)) H (tLv r.2) (H.set i (.cells (cVm r.1) 36))) :
  ab Tryz.prog 52 [eVm v,i64 n] (tVm (doR v k r)):=by
 have hN:=kg
 have ht:(v.d.take (v.d.length-k)).length=v.d.length-k:=by rw[List.length_take];omega
 refine pW tG (rs:=[.cell 4 36,.tmp 5]) Tryz.func52 rfl rfl rfl (by simp) (by simp) (fun B=>?_)
 refine zu3 ?_
 refine Ws ?_
 refine zp1 ?_
 refine zc rfl Tryz.func51 ((oW n) _) ?_
 refine zs1 ?_
 refine Wf rfl (by rw[decide_eq_true ⟨by omega,h1⟩];rfl) ?_
 refine Wj ?_
 refine z8 ?_
 refine zc rfl Tryz.func54 ((nL) _) ?_
 refine z1 ?_
 refine Wv tG rfl rfl rfl (by omega) (iR fP 1 (fun _=>rfl) [] (by omega)) ?_
 refine zs2 ?_
 refine zu3 ?_
 refine Ws ?_
 refine zu2 ?_
 refine Wf rfl (by exact decide_eq_false (by omega)) ?_
 refine Wj ?_
 refine zp2 ?_
 refine zc rfl Tryz.func100 ((hf) _) ?_
 refine zs2 ?_
 refine Ws ?_
 refine zp5 ?_
 refine zs1 ?_
 refine Wi rfl (fun hi3=>?_) (fun hi3=>?_)
 ·have q0:v.d.length<k:=by(try simp only[dnL]at *);omega
  refine zu3 ?_
  refine zR ?_
  rw[doR,if_pos q0];rfl
 have q0:¬v.d.length<k:=by(try simp only[dnL]at *);omega
 have w1:IntKind.i64.wrap ((v.d.length:Int)-(k:Int))=((v.d.length-k:Nat):Int):=by((rw[aK];unfold wrap64;(try simp only[dnL]at *);omega))
 have w2:IntKind.i64.wrap (((v.d.length-k:Nat):Int)+(r.2.1.length:Int))=((v.d.length-k+r.2.1.length:Nat):Int):=by((rw[aK];unfold wrap64;(try simp only[dnL]at *);omega))
 refine Wj ?_
 refine zp5 ?_
 refine z1 ?_
 refine Wa 56 rfl (congrArg (fun z=>PV.val (Value.int .i64 z)) w1) ?_
 refine zs1 ?_
 refine Ws ?_
 refine V.ai [0,10,0,4,0,0,0,9,0,0,0,0,0] [0,1,2,3,4,5,6,7,8,9,10,11,12] mG rfl (by kernel_rfl) ?_
 refine V.z3 ?_
 refine V.gu 3 rfl rfl rfl rfl rfl (fun H2 h2=>ak (lO tG rfl) rfl rfl h2 rfl) ?_
 refine V.z3 ?_
 refine V.gu 0 rfl rfl rfl rfl rfl (fun H2 h2=>ak (lO tG rfl) rfl rfl h2 rfl) ?_
 refine V.z3 ?_
 refine V.z4 ?_ (q:=(by(simp_all;done)))
 refine V.Xa 63 rfl (bM af 1 (fun _=>rfl) (by omega)) ?_
 refine V.Xa 63 rfl ((show _=sq af (v.d.drop (v.d.length-k)) by rw[List.take_length,Int.toNat_natCast];rfl)) ?_
 refine V.Xc rfl rfl rfl rfl (fun _=>dC rfl Tryz.func101 rfl rfl ((CR _ (by simp;omega)) _)) ?_
 refine V.Og 2 rfl rfl rfl rfl (fb rfl rfl (hd (by omega) _ 2 rfl)) rfl ?_
 iterate 5 refine V.z3 ?_
 refine V.ah ?_
 refine Ws ?_
 refine zu2 ?_
 refine Wi rfl (fun hi4=>?_) (fun hi4=>?_)
 ·have q1:r.2.2≠0:=bne_iff_ne.1 hi4
  refine zu4 ?_
  refine zR ?_
  rw[doR,if_neg q0,if_pos q1];rfl
 have q1:¬r.2.2≠0:=fun h=>h (bne_eq_false_iff_eq.1 hi4)
 refine Wj ?_
 refine Ws ?_
 refine zp4 ?_
 refine Wa 75 rfl (congrArg (fun z=>PV.val (Value.int .i64 z)) w2) ?_
 refine zs4 ?_
 refine Wi rfl (fun hi5=>?_) (fun hi5=>?_)
 ·have q2:v.conf.data<((v.d.length-k+r.2.1.length:Nat):Int):=oT hi5
  refine zu3 ?_
  refine zR ?_
  rw[doR,if_neg q0,if_neg q1,if_pos q2];rfl
 have q2:¬v.conf.data<((v.d.length-k+r.2.1.length:Nat):Int):=oF hi5
 refine Wj ?_
 refine zp3 ?_
 refine z2 ?_ (q:=(by(simp_all;done)))
 refine Wa 84 rfl (bM af 1 (fun _=>rfl) (by omega)) ?_
 refine Wa 84 rfl ((show _=sq af (v.d.take (v.d.length-k)) by rw[Int.toNat_natCast,List.drop_zero];rfl)) ?_
 refine zy2 ?_
 refine Wa 86 rfl (bsL vB [_,_] rfl rfl) ?_
 refine zc rfl Tryz.func102 ((DA _ _ (by rw[ht];omega) (by omega)) _) ?_
 refine zs2 ?_
 refine zu3 ?_
 refine zR ?_
 rw[doR,if_neg q0,if_neg q1,if_neg q2];rfl
end Go.Proofs.YtiibjcnedbncjaaGreatDoor
