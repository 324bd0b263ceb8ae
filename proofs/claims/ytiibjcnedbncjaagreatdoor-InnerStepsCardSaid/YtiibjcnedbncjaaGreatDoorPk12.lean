import Derived.Test.YtiibjcnedbncjaaGreatDoorPk11
set_option linter.unusedVariables false
set_option linter.unusedSimpArgs false
set_option linter.unusedSectionVars false
set_option maxRecDepth 100000
set_option maxHeartbeats 40000000
namespace Go.Proofs.YtiibjcnedbncjaaGreatDoor
open Go.RowKit
theorem Hm{v:VVm}{name:Str}{x:List Int}(n0:¬name=[80,79,83,84])(n1:¬name=[67,65,78,67,69,76])(n2:¬name=[65,70,84,69,82])(n3:¬name=[69,86,69,82,89]):iI v name x=none:=by
 unfold iI
 rw[if_neg n0,if_neg n1,if_neg n2,if_neg n3]
theorem KA(v:VVm)(x:List Int):iI v [80,79,83,84] x=some (ex v x):=by kernel_rfl
theorem Br(v:VVm)(x:List Int):iI v [67,65,78,67,69,76] x=some (em v x):=by kernel_rfl
theorem F7(v:VVm)(x:List Int):iI v [65,70,84,69,82] x=some (bn 2 v x):=by kernel_rfl
theorem E4(v:VVm)(x:List Int):iI v [69,86,69,82,89] x=some (bn 3 v x):=by kernel_rfl
theorem yF(v:VVm)(name:Str)(x:List Int)(n0:¬name=[80,79,83,84])(n1:¬name=[67,65,78,67,69,76])(n2:¬name=[65,70,84,69,82])(n3:¬name=[69,86,69,82,89]):ab Tryz.prog 169 [eVm v,str name,sq af x] (tNm v none):=by
 refine pW tG (rs:=[.cell 6 36,.tmp 7,.tmp 8,.tmp 9]) Tryz.func169 rfl rfl rfl (by simp) (by simp) (fun B=>?_)
 refine zu5 ?_
 refine zp2 ?_
 refine zq 13 ?_
 refine z1 ?_
 refine gD 14 rfl (by exact decide_eq_false n2) ?_
 refine zy2 ?_
 refine zq 16 ?_
 refine zs2 ?_
 refine Ws ?_
 refine zp2 ?_
 refine Wa 19 rfl (eU _ _) ?_
 refine z1 ?_
 refine cX 20 rfl (by rw[decide_eq_false n0];rfl) ?_
 refine zy2 ?_
 refine Wa 22 rfl (eU _ _) ?_
 refine zy2 ?_
 refine cX 24 rfl (by rw[decide_eq_false n1];rfl) ?_
 refine zs3 ?_
 refine Wt rfl (by rw[decide_eq_false n3];rfl) ?_
 refine zu5 ?_
 refine zR ?_
 rfl
theorem tH(v:VVm)(hv:bX v)(x:List Int)(hl:1≤x.length):ab Tryz.prog 169 [eVm v,str [67,65,78,67,69,76],sq af x] (tNm v (some (em v x))):=by
 have hr:=hv.req
 have hd:=hv.hand
 refine pW tG (rs:=[.cell 6 36,.tmp 7,.tmp 8,.tmp 9]) Tryz.func169 rfl rfl rfl (by simp) (by simp) (fun B=>?_)
 refine zu5 ?_
 refine zp2 ?_
 refine zq 13 ?_
 refine z1 ?_
 refine gD 14 rfl (by decide) ?_
 refine zy2 ?_
 refine zq 16 ?_
 refine zs2 ?_
 refine Ws ?_
 refine zp2 ?_
 refine Wa 19 rfl (eU _ _) ?_
 refine z1 ?_
 refine cX 20 rfl (by decide) ?_
 refine zy2 ?_
 refine Wa 22 rfl (eU _ _) ?_
 refine zy2 ?_
 refine gD 24 rfl (by decide) ?_
 iterate 2 refine z6 ?_
 refine zs1 ?_
 refine Wf rfl rfl ?_
 refine Wj ?_
 refine zp1 ?_
 refine Wv tG rfl rfl rfl (by omega) (iN af 1 (fun _=>rfl) 0 (by(simp only[dnL]at *;omega))) ?_
 refine zs4 ?_
 refine Ws ?_
 refine zp2 ?_
 refine Wa 34 rfl (eU _ _) ?_
 refine Wn ?_
 refine Wf rfl (by decide) ?_
 refine Wj ?_
 refine Ws ?_
 refine zp2 ?_
 refine gD 72 rfl (by decide) ?_
 iterate 10 refine z6 ?_
 refine zs1 ?_
 refine Wf rfl rfl ?_
 refine Wj ?_
 refine Ws ?_
 refine zu4 ?_
 refine Wi rfl (fun hi2=>?_) (fun hi2=>?_)
 ·have h5:16≤(v.req.length:Int):=oT hi2
  refine zu5 ?_
  refine zR ?_
  rw[em,if_pos h5];rfl
 have h5:¬16≤(v.req.length:Int):=oF hi2
 refine Wj ?_
 refine Ws ?_
 refine zu2 ?_
 refine Wt rfl (by decide) ?_
 refine Ws ?_
 refine V.dL [0,0,1,2,1,0,3,0,3] [0,1,2,4,5,3,6,7,8] mG rfl (by kernel_rfl) ?_
 refine V.z3 ?_
 refine V.Xa 92 rfl ((show PV.seq 0 _ .clip=.seq (List.length ([]:List fZ)) (List.flatMap ez ([]:List fZ)) .clip from rfl)) ?_
 refine V.z3 ?_
 iterate 2 refine V.z5 ?_
 refine V.z3 ?_
 refine V.Xa 97 rfl ((show PV.seq 1 _ .clip=.seq (List.length [(⟨4,0,0,0,0,xat x 0⟩:fZ)]) (List.flatMap ez [(⟨4,0,0,0,0,xat x 0⟩:fZ)]) .clip from rfl)) ?_
 refine V.je rfl rfl rfl rfl (aC (lO tG rfl) rfl (lO tG rfl) (lO tG rfl) rfl rfl (by exact⟨_,rfl⟩) (by exact⟨rfl,rfl,ag _ 6 (fun _=>rfl) _,aB _ (fun _=>rfl) _⟩) (by exact ag _ 6 (fun _=>rfl) _) (by(simp;omega)) (by(simp;omega))) ?_
 refine V.Xa 95 rfl (aM ez) ?_
 refine V.ej rfl rfl rfl rfl (aF (lO tG rfl) rfl (lO tG rfl) (lO tG rfl) rfl rfl rfl rfl (by simp) (by exact⟨_,rfl⟩) (by exact⟨rfl,rfl,ag _ 6 (fun _=>rfl) _,aB _ (fun _=>rfl) _⟩) (by(simp;omega)) (by(simp;omega))) ?_
 refine V.Xa 98 rfl (aM ez) ?_
 refine V.z3 ?_
 refine V.aZ tG rfl rfl rfl rfl rfl trivial ?_
 refine V.ah ?_
 refine zu5 ?_
 refine zR ?_
 rw[em,if_neg h5];rfl
theorem xS(v:VVm)(hv:bX v)(x:List Int)(hl:3≤x.length):ab Tryz.prog 169 [eVm v,str [80,79,83,84],sq af x] (tNm v (some (ex v x))):=by
 have hr:=hv.req
 have hd:=hv.hand
 refine pW tG (rs:=[.cell 6 36,.tmp 7,.tmp 8,.tmp 9]) Tryz.func169 rfl rfl rfl (by simp) (by simp) (fun B=>?_)
 refine zu5 ?_
 refine zp2 ?_
 refine zq 13 ?_
 refine z1 ?_
 refine gD 14 rfl (by decide) ?_
 refine zy2 ?_
 refine zq 16 ?_
 refine zs2 ?_
 refine Ws ?_
 refine zp2 ?_
 refine Wa 19 rfl (eU _ _) ?_
 refine z1 ?_
 refine gD 20 rfl (by decide) ?_
 iterate 2 refine z6 ?_
 refine zy2 ?_
 iterate 2 refine z6 ?_
 refine zs1 ?_
 refine Wf rfl rfl ?_
 refine Wj ?_
 refine zp1 ?_
 refine Wv tG rfl rfl rfl (by omega) (iN af 1 (fun _=>rfl) 0 (by(simp only[dnL]at *;omega))) ?_
 refine zs4 ?_
 refine Ws ?_
 refine zp2 ?_
 refine Wa 34 rfl (eU _ _) ?_
 refine Wn ?_
 refine Wt rfl (by decide) ?_
 iterate 2 refine Ws ?_
 refine V.dL [0,0,1,0,0,0,0,1,0,1,0,0,0,0,0,0,1,0,0,0,0,0,1,0,0] [0,1,2,3,4,5,6,7,8,9,10,11,12,13,14,15,16,17,18,19,20,21,22,23,24] mG rfl (by kernel_rfl) ?_
 refine V.z3 ?_
 refine V.Xi tG rfl rfl rfl rfl (fun _=>rfl) (by omega) (iN af 1 (fun _=>rfl) 0 (by(simp only[dnL]at *;omega))) ?_
 refine V.z5 ?_
 iterate 2 refine V.z3 ?_
 refine V.bZ 39 rfl (fun hg3=>?_) (fun hg3=>?_)
 ·have h1:xat x 1<0:=oT hg3
  have hb:cf v x:=.inl h1
  iterate 7 refine V.z7 ?_
  iterate 2 refine V.z3 ?_
  iterate 4 refine V.z7 ?_
  iterate 2 refine V.z3 ?_
  iterate 4 refine V.z7 ?_
  refine V.z3 ?_
  refine V.ah ?_
  refine Wt rfl rfl ?_
  refine zu5 ?_
  refine zR ?_
  rw[ex,if_pos hb];rfl
 have h1:¬xat x 1<0:=oF hg3
 refine V.z3 ?_
 refine V.Xi tG rfl rfl rfl rfl (fun _=>rfl) (by omega) (iN af 1 (fun _=>rfl) 0 (by(simp only[dnL]at *;omega))) ?_
 refine V.z5 ?_
 refine V.z3 ?_
 refine V.z5 ?_
 iterate 4 refine V.z3 ?_
 refine V.bZ 48 rfl (fun hg4=>?_) (fun hg4=>?_)
 ·have h2:(v.hand.length:Int)≤xat x 1:=oT hg4
  have hb:cf v x:=.inr (.inl h2)
  iterate 4 refine V.z7 ?_
  iterate 2 refine V.z3 ?_
  iterate 4 refine V.z7 ?_
  refine V.z3 ?_
  refine V.ah ?_
  refine Wt rfl rfl ?_
  refine zu5 ?_
  refine zR ?_
  rw[ex,if_pos hb];rfl
 have h2:¬(v.hand.length:Int)≤xat x 1:=oF hg4
 refine V.z3 ?_
 refine V.Xi tG rfl rfl rfl rfl (fun _=>rfl) (by omega) (iN af 1 (fun _=>rfl) 0 (by(simp only[dnL]at *;omega))) ?_
 refine V.z5 ?_
 iterate 3 refine V.z3 ?_
 refine V.bZ 54 rfl (fun hg5=>?_) (fun hg5=>?_)
 ·have h3:xat x 2<0:=oT hg5
  have hb:cf v x:=.inr (.inr (.inl h3))
  iterate 4 refine V.z7 ?_
  refine V.z3 ?_
  refine V.ah ?_
  refine Wt rfl rfl ?_
  refine zu5 ?_
  refine zR ?_
  rw[ex,if_pos hb];rfl
 have h3:¬xat x 2<0:=oF hg5
 refine V.z3 ?_
 refine V.Xi tG rfl rfl rfl rfl (fun _=>rfl) (by omega) (iN af 1 (fun _=>rfl) 0 (by(simp only[dnL]at *;omega))) ?_
 refine V.z5 ?_
 iterate 2 refine V.z3 ?_
 refine V.ah ?_
 refine Wi rfl (fun hi2=>?_) (fun hi2=>?_)
 ·have h4:3<xat x 2:=oT hi2
  have hb:cf v x:=.inr (.inr (.inr h4))
  refine zu5 ?_
  refine zR ?_
  rw[ex,if_pos hb];rfl
 have h4:¬3<xat x 2:=oF hi2
 have hb:¬cf v x:=by rintro(h|h|h|h)<;>omega
 refine Wj ?_
 refine V.dL [0,0,1,0,0,1,0,0,1,0,3] [0,1,2,3,4,5,6,7,8,9,10] mG rfl (by kernel_rfl) ?_
 refine V.z3 ?_
 refine V.Xi tG rfl rfl rfl rfl (fun _=>rfl) (by omega) (iN af 1 (fun _=>rfl) 0 (by(simp only[dnL]at *;omega))) ?_
 refine V.z5 ?_
 refine V.z3 ?_
 refine V.Xi tG rfl rfl rfl rfl (fun _=>rfl) (by omega) (iN af 1 (fun _=>rfl) 0 (by(simp only[dnL]at *;omega))) ?_
 refine V.z5 ?_
 refine V.z3 ?_
 refine V.Xi tG rfl rfl rfl rfl (fun _=>rfl) (by omega) (iN af 1 (fun _=>rfl) 0 (by(simp only[dnL]at *;omega))) ?_
 refine V.z5 ?_
 refine V.z3 ?_
 refine V.aZ tG rfl rfl rfl rfl rfl trivial ?_
 refine V.ah ?_
 refine Ws ?_
 refine zp2 ?_
 refine gD 72 rfl (by decide) ?_
 iterate 10 refine z6 ?_
 refine zs1 ?_
 refine Wf rfl rfl ?_
 refine Wj ?_
 refine Ws ?_
 refine zu4 ?_
 refine Wi rfl (fun hi3=>?_) (fun hi3=>?_)
 ·have h5:16≤(v.req.length:Int):=oT hi3
  refine zu5 ?_
  refine zR ?_
  rw[ex,if_neg hb,if_pos h5];rfl
 have h5:¬16≤(v.req.length:Int):=oF hi3
 refine Wj ?_
 refine Ws ?_
 refine zu2 ?_
 refine Wt rfl (by decide) ?_
 refine Ws ?_
 refine V.dL [0,0,1,2,1,0,3,0,3] [0,1,2,4,5,3,6,7,8] mG rfl (by kernel_rfl) ?_
 refine V.z3 ?_
 refine V.Xa 92 rfl ((show PV.seq 0 _ .clip=.seq (List.length ([]:List fZ)) (List.flatMap ez ([]:List fZ)) .clip from rfl)) ?_
 refine V.z3 ?_
 iterate 2 refine V.z5 ?_
 refine V.z3 ?_
 refine V.Xa 97 rfl ((show PV.seq 1 _ .clip=.seq (List.length [(⟨1,xat x 0,xat x 1,xat x 2,0,0⟩:fZ)]) (List.flatMap ez [(⟨1,xat x 0,xat x 1,xat x 2,0,0⟩:fZ)]) .clip from rfl)) ?_
 refine V.je rfl rfl rfl rfl (aC (lO tG rfl) rfl (lO tG rfl) (lO tG rfl) rfl rfl (by exact⟨_,rfl⟩) (by exact⟨rfl,rfl,ag _ 6 (fun _=>rfl) _,aB _ (fun _=>rfl) _⟩) (by exact ag _ 6 (fun _=>rfl) _) (by(simp;omega)) (by(simp;omega))) ?_
 refine V.Xa 95 rfl (aM ez) ?_
 refine V.ej rfl rfl rfl rfl (aF (lO tG rfl) rfl (lO tG rfl) (lO tG rfl) rfl rfl rfl rfl (by simp) (by exact⟨_,rfl⟩) (by exact⟨rfl,rfl,ag _ 6 (fun _=>rfl) _,aB _ (fun _=>rfl) _⟩) (by(simp;omega)) (by(simp;omega))) ?_
 refine V.Xa 98 rfl (aM ez) ?_
 refine V.z3 ?_
 refine V.aZ tG rfl rfl rfl rfl rfl trivial ?_
 refine V.ah ?_
 refine zu5 ?_
 refine zR ?_
 rw[ex,if_neg hb,if_neg h5];rfl
theorem vF(v:VVm)(hv:bX v)(x:List Int)(hl:4≤x.length):ab Tryz.prog 169 [eVm v,str [65,70,84,69,82],sq af x] (tNm v (some (bn 2 v x))):=by
 have hr:=hv.req
 have hd:=hv.hand
 refine pW tG (rs:=[.cell 6 36,.tmp 7,.tmp 8,.tmp 9]) Tryz.func169 rfl rfl rfl (by simp) (by simp) (fun B=>?_)
 refine zu5 ?_
 refine zp2 ?_
 refine zq 13 ?_
 refine z1 ?_
 refine cX 14 rfl (by decide) ?_
 iterate 2 refine z6 ?_
 refine zs2 ?_
 refine Ws ?_
 refine zp2 ?_
 refine Wa 19 rfl (eU _ _) ?_
 refine z1 ?_
 refine cX 20 rfl (by decide) ?_
 refine zy2 ?_
 refine Wa 22 rfl (eU _ _) ?_
 refine zy2 ?_
 refine cX 24 rfl (by decide) ?_
 refine zs3 ?_
 refine Wf rfl rfl ?_
 refine Wj ?_
 refine zp1 ?_
 refine Wv tG rfl rfl rfl (by omega) (iN af 1 (fun _=>rfl) 0 (by(simp only[dnL]at *;omega))) ?_
 refine zs4 ?_
 refine Ws ?_
 refine zp2 ?_
 refine Wa 34 rfl (eU _ _) ?_
 refine Wn ?_
 refine Wt rfl (by decide) ?_
 iterate 2 refine Ws ?_
 refine V.dL [0,0,1,0,0,0,0,1,0,1,0,0,0,0,0,0,1,0,0,0,0,0,1,0,0] [0,1,2,3,4,5,6,7,8,9,10,11,12,13,14,15,16,17,18,19,20,21,22,23,24] mG rfl (by kernel_rfl) ?_
 refine V.z3 ?_
 refine V.Xi tG rfl rfl rfl rfl (fun _=>rfl) (by omega) (iN af 1 (fun _=>rfl) 0 (by(simp only[dnL]at *;omega))) ?_
 refine V.z5 ?_
 iterate 2 refine V.z3 ?_
 refine V.bZ 39 rfl (fun hg4=>?_) (fun hg4=>?_)
 ·have h1:xat x 1<0:=oT hg4
  have hb:cf v x:=.inl h1
  iterate 7 refine V.z7 ?_
  iterate 2 refine V.z3 ?_
  iterate 4 refine V.z7 ?_
  iterate 2 refine V.z3 ?_
  iterate 4 refine V.z7 ?_
  refine V.z3 ?_
  refine V.ah ?_
  refine Wt rfl rfl ?_
  refine zu5 ?_
  refine zR ?_
  rw[bn,if_pos hb];rfl
 have h1:¬xat x 1<0:=oF hg4
 refine V.z3 ?_
 refine V.Xi tG rfl rfl rfl rfl (fun _=>rfl) (by omega) (iN af 1 (fun _=>rfl) 0 (by(simp only[dnL]at *;omega))) ?_
 refine V.z5 ?_
 refine V.z3 ?_
 refine V.z5 ?_
 iterate 4 refine V.z3 ?_
 refine V.bZ 48 rfl (fun hg5=>?_) (fun hg5=>?_)
 ·have h2:(v.hand.length:Int)≤xat x 1:=oT hg5
  have hb:cf v x:=.inr (.inl h2)
  iterate 4 refine V.z7 ?_
  iterate 2 refine V.z3 ?_
  iterate 4 refine V.z7 ?_
  refine V.z3 ?_
  refine V.ah ?_
  refine Wt rfl rfl ?_
  refine zu5 ?_
  refine zR ?_
  rw[bn,if_pos hb];rfl
 have h2:¬(v.hand.length:Int)≤xat x 1:=oF hg5
 refine V.z3 ?_
 refine V.Xi tG rfl rfl rfl rfl (fun _=>rfl) (by omega) (iN af 1 (fun _=>rfl) 0 (by(simp only[dnL]at *;omega))) ?_
 refine V.z5 ?_
 iterate 3 refine V.z3 ?_
 refine V.bZ 54 rfl (fun hg6=>?_) (fun hg6=>?_)
 ·have h3:xat x 2<0:=oT hg6
  have hb:cf v x:=.inr (.inr (.inl h3))
  iterate 4 refine V.z7 ?_
  refine V.z3 ?_
  refine V.ah ?_
  refine Wt rfl rfl ?_
  refine zu5 ?_
  refine zR ?_
  rw[bn,if_pos hb];rfl
 have h3:¬xat x 2<0:=oF hg6
 refine V.z3 ?_
 refine V.Xi tG rfl rfl rfl rfl (fun _=>rfl) (by omega) (iN af 1 (fun _=>rfl) 0 (by(simp only[dnL]at *;omega))) ?_
 refine V.z5 ?_
 iterate 2 refine V.z3 ?_
 refine V.ah ?_
 refine Wi rfl (fun hi2=>?_) (fun hi2=>?_)
 ·have h4:3<xat x 2:=oT hi2
  have hb:cf v x:=.inr (.inr (.inr h4))
  refine zu5 ?_
  refine zR ?_
  rw[bn,if_pos hb];rfl
 have h4:¬3<xat x 2:=oF hi2
 have hb:¬cf v x:=by rintro(h|h|h|h)<;>omega
 refine Wj ?_
 refine V.dL [0,0,1,0,0,1,0,0,1,0,3] [0,1,2,3,4,5,6,7,8,9,10] mG rfl (by kernel_rfl) ?_
 refine V.z3 ?_
 refine V.Xi tG rfl rfl rfl rfl (fun _=>rfl) (by omega) (iN af 1 (fun _=>rfl) 0 (by(simp only[dnL]at *;omega))) ?_
 refine V.z5 ?_
 refine V.z3 ?_
 refine V.Xi tG rfl rfl rfl rfl (fun _=>rfl) (by omega) (iN af 1 (fun _=>rfl) 0 (by(simp only[dnL]at *;omega))) ?_
 refine V.z5 ?_
 refine V.z3 ?_
 refine V.Xi tG rfl rfl rfl rfl (fun _=>rfl) (by omega) (iN af 1 (fun _=>rfl) 0 (by(simp only[dnL]at *;omega))) ?_
 refine V.z5 ?_
 refine V.z3 ?_
 refine V.aZ tG rfl rfl rfl rfl rfl trivial ?_
 refine V.ah ?_
 refine Ws ?_
 refine zp3 ?_
 refine Wv tG rfl rfl rfl (by omega) (iN af 1 (fun _=>rfl) 0 (by(simp only[dnL]at *;omega))) ?_
 refine zy3 ?_
 refine Wb 77 rfl (fun hg7=>?_) (fun hg7=>?_)
 ·have h6:xat x 3<1:=oT hg7
  have hq:xat x 3<1∨4294967295<xat x 3:=.inl h6
  iterate 4 refine z6 ?_
  refine zs2 ?_
  refine Wt rfl rfl ?_
  refine zu5 ?_
  refine zR ?_
  rw[bn,if_neg hb,if_pos hq];rfl
 have h6:¬xat x 3<1:=oF hg7
 refine z1 ?_
 refine Wv tG rfl rfl rfl (by omega) (iN af 1 (fun _=>rfl) 0 (by(simp only[dnL]at *;omega))) ?_
 refine zs4 ?_
 refine Wi rfl (fun hi3=>?_) (fun hi3=>?_)
 ·have h7:4294967295<xat x 3:=oT hi3
  have hq:xat x 3<1∨4294967295<xat x 3:=.inr h7
  refine zu5 ?_
  refine zR ?_
  rw[bn,if_neg hb,if_pos hq];rfl
 have h7:¬4294967295<xat x 3:=oF hi3
 have hq:¬(xat x 3<1∨4294967295<xat x 3):=by omega
 refine Wj ?_
 refine Ws ?_
 refine zu4 ?_
 refine Wi rfl (fun hi4=>?_) (fun hi4=>?_)
 ·have h5:16≤(v.req.length:Int):=oT hi4
  refine zu5 ?_
  refine zR ?_
  rw[bn,if_neg hb,if_neg hq,if_pos h5];rfl
 have h5:¬16≤(v.req.length:Int):=oF hi4
 refine Wj ?_
 refine Ws ?_
 refine zu2 ?_
 refine Wf rfl rfl ?_
 refine Wj ?_
 refine Ws ?_
 refine zp4 ?_
 refine Wb 104 rfl (fun hg8=>?_) (fun hg8=>?_)
 ·have h8:v.free=0:=beq_iff_eq.1 hg8
  have hw:v.free=0∨v.next=4611686018427387904:=.inl h8
  iterate 3 refine z6 ?_
  refine zs1 ?_
  refine Wt rfl rfl ?_
  refine zu5 ?_
  refine zR ?_
  rw[bn,if_neg hb,if_neg hq,if_neg h5,if_pos hw];rfl
 have h8:¬v.free=0:=beq_eq_false_iff_ne.1 hg8
 refine zs4 ?_
 refine Wi rfl (fun hi5=>?_) (fun hi5=>?_)
 ·have h9:v.next=4611686018427387904:=beq_iff_eq.1 hi5
  have hw:v.free=0∨v.next=4611686018427387904:=.inr h9
  refine zu5 ?_
  refine zR ?_
  rw[bn,if_neg hb,if_neg hq,if_neg h5,if_pos hw];rfl
 have h9:¬v.next=4611686018427387904:=beq_eq_false_iff_ne.1 hi5
 have hw:¬(v.free=0∨v.next=4611686018427387904):=by rintro(h|h)<;>contradiction
 refine Wj ?_
 refine zu2 ?_
 refine Ws ?_
 refine zp2 ?_
 refine zq 112 ?_
 refine Wn ?_
 refine Wf rfl (by decide) ?_
 refine Wj ?_
 refine zp1 ?_
 refine Wv tG rfl rfl rfl (by omega) (iN af 1 (fun _=>rfl) 0 (by(simp only[dnL]at *;omega))) ?_
 refine zs3 ?_
 refine zu4 ?_
 refine Ws ?_
 refine V.dL [0,0,1,2,1,0,3,0,3] [0,1,2,4,5,3,6,7,8] mG rfl (by kernel_rfl) ?_
 refine V.z3 ?_
 refine V.Xa 121 rfl ((show PV.seq 0 _ .clip=.seq (List.length ([]:List fZ)) (List.flatMap ez ([]:List fZ)) .clip from rfl)) ?_
 refine V.z3 ?_
 iterate 2 refine V.z5 ?_
 refine V.z3 ?_
 refine V.Xa 126 rfl ((show PV.seq 1 _ .clip=.seq (List.length [(⟨2,xat x 0,xat x 1,xat x 2,xat x 3,v.next⟩:fZ)]) (List.flatMap ez [(⟨2,xat x 0,xat x 1,xat x 2,xat x 3,v.next⟩:fZ)]) .clip from rfl)) ?_
 refine V.je rfl rfl rfl rfl (aC (lO tG rfl) rfl (lO tG rfl) (lO tG rfl) rfl rfl (by exact⟨_,rfl⟩) (by exact⟨rfl,rfl,ag _ 6 (fun _=>rfl) _,aB _ (fun _=>rfl) _⟩) (by exact ag _ 6 (fun _=>rfl) _) (by(simp;omega)) (by(simp;omega))) ?_
 refine V.Xa 124 rfl (aM ez) ?_
 refine V.ej rfl rfl rfl rfl (aF (lO tG rfl) rfl (lO tG rfl) (lO tG rfl) rfl rfl rfl rfl (by simp) (by exact⟨_,rfl⟩) (by exact⟨rfl,rfl,ag _ 6 (fun _=>rfl) _,aB _ (fun _=>rfl) _⟩) (by(simp;omega)) (by(simp;omega))) ?_
 refine V.Xa 127 rfl (aM ez) ?_
 refine V.z3 ?_
 refine V.aZ tG rfl rfl rfl rfl rfl trivial ?_
 refine V.ah ?_
 refine zu5 ?_
 refine zu5 ?_
 refine Ws ?_
 refine V.dL [4,0,8,0,7,0,0,0] [0,1,2,3,4,5,6,7] mG rfl (by kernel_rfl) ?_
 refine V.gu 0 rfl rfl rfl rfl rfl (fun H2 h2=>ak (lO tG rfl) rfl rfl h2 rfl) ?_
 refine V.z3 ?_
 refine V.gu 2 rfl rfl rfl rfl rfl (fun H2 h2=>ak (lO tG rfl) rfl rfl h2 rfl) ?_
 refine V.z3 ?_
 refine V.Xa 140 rfl (bsL af [_] rfl rfl) ?_
 refine V.lM 1 tG rfl rfl rfl rfl rfl trivial rfl ?_
 iterate 3 refine V.z3 ?_
 refine V.ah ?_
 refine zR ?_
 rw[bn,if_neg hb,if_neg hq,if_neg h5,if_neg hw];rfl
theorem vO(v:VVm)(hv:bX v)(x:List Int)(hl:4≤x.length):ab Tryz.prog 169 [eVm v,str [69,86,69,82,89],sq af x] (tNm v (some (bn 3 v x))):=by
 have hr:=hv.req
 have hd:=hv.hand
 refine pW tG (rs:=[.cell 6 36,.tmp 7,.tmp 8,.tmp 9]) Tryz.func169 rfl rfl rfl (by simp) (by simp) (fun B=>?_)
 refine zu5 ?_
 refine zp2 ?_
 refine zq 13 ?_
 refine z1 ?_
 refine gD 14 rfl (by decide) ?_
 refine zy2 ?_
 refine zq 16 ?_
 refine zs2 ?_
 refine Ws ?_
 refine zp2 ?_
 refine Wa 19 rfl (eU _ _) ?_
 refine z1 ?_
 refine cX 20 rfl (by decide) ?_
 refine zy2 ?_
 refine Wa 22 rfl (eU _ _) ?_
 refine zy2 ?_
 refine cX 24 rfl (by decide) ?_
 refine zs3 ?_
 refine Wf rfl (by decide) ?_
 refine Wj ?_
 refine zp1 ?_
 refine Wv tG rfl rfl rfl (by omega) (iN af 1 (fun _=>rfl) 0 (by(simp only[dnL]at *;omega))) ?_
 refine zs4 ?_
 refine Ws ?_
 refine zp2 ?_
 refine Wa 34 rfl (eU _ _) ?_
 refine Wn ?_
 refine Wt rfl (by decide) ?_
 iterate 2 refine Ws ?_
 refine V.dL [0,0,1,0,0,0,0,1,0,1,0,0,0,0,0,0,1,0,0,0,0,0,1,0,0] [0,1,2,3,4,5,6,7,8,9,10,11,12,13,14,15,16,17,18,19,20,21,22,23,24] mG rfl (by kernel_rfl) ?_
 refine V.z3 ?_
 refine V.Xi tG rfl rfl rfl rfl (fun _=>rfl) (by omega) (iN af 1 (fun _=>rfl) 0 (by(simp only[dnL]at *;omega))) ?_
 refine V.z5 ?_
 iterate 2 refine V.z3 ?_
 refine V.bZ 39 rfl (fun hg4=>?_) (fun hg4=>?_)
 ·have h1:xat x 1<0:=oT hg4
  have hb:cf v x:=.inl h1
  iterate 7 refine V.z7 ?_
  iterate 2 refine V.z3 ?_
  iterate 4 refine V.z7 ?_
  iterate 2 refine V.z3 ?_
  iterate 4 refine V.z7 ?_
  refine V.z3 ?_
  refine V.ah ?_
  refine Wt rfl rfl ?_
  refine zu5 ?_
  refine zR ?_
  rw[bn,if_pos hb];rfl
 have h1:¬xat x 1<0:=oF hg4
 refine V.z3 ?_
 refine V.Xi tG rfl rfl rfl rfl (fun _=>rfl) (by omega) (iN af 1 (fun _=>rfl) 0 (by(simp only[dnL]at *;omega))) ?_
 refine V.z5 ?_
 refine V.z3 ?_
 refine V.z5 ?_
 iterate 4 refine V.z3 ?_
 refine V.bZ 48 rfl (fun hg5=>?_) (fun hg5=>?_)
 ·have h2:(v.hand.length:Int)≤xat x 1:=oT hg5
  have hb:cf v x:=.inr (.inl h2)
  iterate 4 refine V.z7 ?_
  iterate 2 refine V.z3 ?_
  iterate 4 refine V.z7 ?_
  refine V.z3 ?_
  refine V.ah ?_
  refine Wt rfl rfl ?_
  refine zu5 ?_
  refine zR ?_
  rw[bn,if_pos hb];rfl
 have h2:¬(v.hand.length:Int)≤xat x 1:=oF hg5
 refine V.z3 ?_
 refine V.Xi tG rfl rfl rfl rfl (fun _=>rfl) (by omega) (iN af 1 (fun _=>rfl) 0 (by(simp only[dnL]at *;omega))) ?_
 refine V.z5 ?_
 iterate 3 refine V.z3 ?_
 refine V.bZ 54 rfl (fun hg6=>?_) (fun hg6=>?_)
 ·have h3:xat x 2<0:=oT hg6
  have hb:cf v x:=.inr (.inr (.inl h3))
  iterate 4 refine V.z7 ?_
  refine V.z3 ?_
  refine V.ah ?_
  refine Wt rfl rfl ?_
  refine zu5 ?_
  refine zR ?_
  rw[bn,if_pos hb];rfl
 have h3:¬xat x 2<0:=oF hg6
 refine V.z3 ?_
 refine V.Xi tG rfl rfl rfl rfl (fun _=>rfl) (by omega) (iN af 1 (fun _=>rfl) 0 (by(simp only[dnL]at *;omega))) ?_
 refine V.z5 ?_
 iterate 2 refine V.z3 ?_
 refine V.ah ?_
 refine Wi rfl (fun hi3=>?_) (fun hi3=>?_)
 ·have h4:3<xat x 2:=oT hi3
  have hb:cf v x:=.inr (.inr (.inr h4))
  refine zu5 ?_
  refine zR ?_
  rw[bn,if_pos hb];rfl
 have h4:¬3<xat x 2:=oF hi3
 have hb:¬cf v x:=by rintro(h|h|h|h)<;>omega
 refine Wj ?_
 refine V.dL [0,0,1,0,0,1,0,0,1,0,3] [0,1,2,3,4,5,6,7,8,9,10] mG rfl (by kernel_rfl) ?_
 refine V.z3 ?_
 refine V.Xi tG rfl rfl rfl rfl (fun _=>rfl) (by omega) (iN af 1 (fun _=>rfl) 0 (by(simp only[dnL]at *;omega))) ?_
 refine V.z5 ?_
 refine V.z3 ?_
 refine V.Xi tG rfl rfl rfl rfl (fun _=>rfl) (by omega) (iN af 1 (fun _=>rfl) 0 (by(simp only[dnL]at *;omega))) ?_
 refine V.z5 ?_
 refine V.z3 ?_
 refine V.Xi tG rfl rfl rfl rfl (fun _=>rfl) (by omega) (iN af 1 (fun _=>rfl) 0 (by(simp only[dnL]at *;omega))) ?_
 refine V.z5 ?_
 refine V.z3 ?_
 refine V.aZ tG rfl rfl rfl rfl rfl trivial ?_
 refine V.ah ?_
 refine Ws ?_
 refine zp2 ?_
 refine cX 72 rfl (by decide) ?_
 refine z1 ?_
 refine Wv tG rfl rfl rfl (by omega) (iN af 1 (fun _=>rfl) 0 (by(simp only[dnL]at *;omega))) ?_
 refine zy3 ?_
 refine Wb 77 rfl (fun hg8=>?_) (fun hg8=>?_)
 ·have h6:xat x 3<1:=oT hg8
  have hq:xat x 3<1∨4294967295<xat x 3:=.inl h6
  iterate 4 refine z6 ?_
  refine zs2 ?_
  refine Wt rfl rfl ?_
  refine zu5 ?_
  refine zR ?_
  rw[bn,if_neg hb,if_pos hq];rfl
 have h6:¬xat x 3<1:=oF hg8
 refine z1 ?_
 refine Wv tG rfl rfl rfl (by omega) (iN af 1 (fun _=>rfl) 0 (by(simp only[dnL]at *;omega))) ?_
 refine zs4 ?_
 refine Wi rfl (fun hi4=>?_) (fun hi4=>?_)
 ·have h7:4294967295<xat x 3:=oT hi4
  have hq:xat x 3<1∨4294967295<xat x 3:=.inr h7
  refine zu5 ?_
  refine zR ?_
  rw[bn,if_neg hb,if_pos hq];rfl
 have h7:¬4294967295<xat x 3:=oF hi4
 have hq:¬(xat x 3<1∨4294967295<xat x 3):=by omega
 refine Wj ?_
 refine Ws ?_
 refine zu4 ?_
 refine Wi rfl (fun hi5=>?_) (fun hi5=>?_)
 ·have h5:16≤(v.req.length:Int):=oT hi5
  refine zu5 ?_
  refine zR ?_
  rw[bn,if_neg hb,if_neg hq,if_pos h5];rfl
 have h5:¬16≤(v.req.length:Int):=oF hi5
 refine Wj ?_
 refine Ws ?_
 refine zu2 ?_
 refine Wf rfl (by decide) ?_
 refine Wj ?_
 refine Ws ?_
 refine zp4 ?_
 refine Wb 104 rfl (fun hg9=>?_) (fun hg9=>?_)
 ·have h8:v.free=0:=beq_iff_eq.1 hg9
  have hw:v.free=0∨v.next=4611686018427387904:=.inl h8
  iterate 3 refine z6 ?_
  refine zs1 ?_
  refine Wt rfl rfl ?_
  refine zu5 ?_
  refine zR ?_
  rw[bn,if_neg hb,if_neg hq,if_neg h5,if_pos hw];rfl
 have h8:¬v.free=0:=beq_eq_false_iff_ne.1 hg9
 refine zs4 ?_
 refine Wi rfl (fun hi7=>?_) (fun hi7=>?_)
 ·have h9:v.next=4611686018427387904:=beq_iff_eq.1 hi7
  have hw:v.free=0∨v.next=4611686018427387904:=.inr h9
  refine zu5 ?_
  refine zR ?_
  rw[bn,if_neg hb,if_neg hq,if_neg h5,if_pos hw];rfl
 have h9:¬v.next=4611686018427387904:=beq_eq_false_iff_ne.1 hi7
 have hw:¬(v.free=0∨v.next=4611686018427387904):=by rintro(h|h)<;>contradiction
 refine Wj ?_
 refine zu2 ?_
 refine Ws ?_
 refine zp2 ?_
 refine zq 112 ?_
 refine Wn ?_
 refine Wt rfl (by decide) ?_
 refine aa rfl ?_
 refine zs2 ?_
 refine zp1 ?_
 refine Wv tG rfl rfl rfl (by omega) (iN af 1 (fun _=>rfl) 0 (by(simp only[dnL]at *;omega))) ?_
 refine zs3 ?_
 refine zu4 ?_
 refine Ws ?_
 refine V.dL [0,0,1,2,1,0,3,0,3] [0,1,2,4,5,3,6,7,8] mG rfl (by kernel_rfl) ?_
 refine V.z3 ?_
 refine V.Xa 121 rfl ((show PV.seq 0 _ .clip=.seq (List.length ([]:List fZ)) (List.flatMap ez ([]:List fZ)) .clip from rfl)) ?_
 refine V.z3 ?_
 iterate 2 refine V.z5 ?_
 refine V.z3 ?_
 refine V.Xa 126 rfl ((show PV.seq 1 _ .clip=.seq (List.length [(⟨3,xat x 0,xat x 1,xat x 2,xat x 3,v.next⟩:fZ)]) (List.flatMap ez [(⟨3,xat x 0,xat x 1,xat x 2,xat x 3,v.next⟩:fZ)]) .clip from rfl)) ?_
 refine V.je rfl rfl rfl rfl (aC (lO tG rfl) rfl (lO tG rfl) (lO tG rfl) rfl rfl (by exact⟨_,rfl⟩) (by exact⟨rfl,rfl,ag _ 6 (fun _=>rfl) _,aB _ (fun _=>rfl) _⟩) (by exact ag _ 6 (fun _=>rfl) _) (by(simp;omega)) (by(simp;omega))) ?_
 refine V.Xa 124 rfl (aM ez) ?_
 refine V.ej rfl rfl rfl rfl (aF (lO tG rfl) rfl (lO tG rfl) (lO tG rfl) rfl rfl rfl rfl (by simp) (by exact⟨_,rfl⟩) (by exact⟨rfl,rfl,ag _ 6 (fun _=>rfl) _,aB _ (fun _=>rfl) _⟩) (by(simp;omega)) (by(simp;omega))) ?_
 refine V.Xa 127 rfl (aM ez) ?_
 refine V.z3 ?_
 refine V.aZ tG rfl rfl rfl rfl rfl trivial ?_
 refine V.ah ?_
 refine zu5 ?_
 refine zu5 ?_
 refine Ws ?_
 refine V.dL [4,0,8,0,7,0,0,0] [0,1,2,3,4,5,6,7] mG rfl (by kernel_rfl) ?_
 refine V.gu 0 rfl rfl rfl rfl rfl (fun H2 h2=>ak (lO tG rfl) rfl rfl h2 rfl) ?_
 refine V.z3 ?_
 refine V.gu 2 rfl rfl rfl rfl rfl (fun H2 h2=>ak (lO tG rfl) rfl rfl h2 rfl) ?_
 refine V.z3 ?_
 refine V.Xa 140 rfl (bsL af [_] rfl rfl) ?_
 refine V.lM 1 tG rfl rfl rfl rfl rfl trivial rfl ?_
 iterate 3 refine V.z3 ?_
 refine V.ah ?_
 refine zR ?_
 rw[bn,if_neg hb,if_neg hq,if_neg h5,if_neg hw];rfl
theorem MY(v:VVm)(hv:bX v)(name:Str)(x:List Int)(hx:∀i,ae (xat x i))(hn:bw name≤x.length):ab Tryz.prog 169 [eVm v,str name,sq af x] (tNm v (iI v name x)):=by
 by_cases n0:name=[80,79,83,84]
 ·subst n0
  have h:bw [80,79,83,84]=3:=by kernel_rfl
  rw[KA]
  exact xS v hv x (by omega)
 by_cases n1:name=[67,65,78,67,69,76]
 ·subst n1
  have h:bw [67,65,78,67,69,76]=1:=by kernel_rfl
  rw[Br]
  exact tH v hv x (by omega)
 by_cases n2:name=[65,70,84,69,82]
 ·subst n2
  have h:bw [65,70,84,69,82]=4:=by kernel_rfl
  rw[F7]
  exact vF v hv x (by omega)
 by_cases n3:name=[69,86,69,82,89]
 ·subst n3
  have h:bw [69,86,69,82,89]=4:=by kernel_rfl
  rw[E4]
  exact vO v hv x (by omega)
 rw[Hm n0 n1 n2 n3]
 exact yF v name x n0 n1 n2 n3
theorem aJ{α:Type}{c:Prop}[Decidable c]{a r:α}{b:Option α}(h:(if c then some a else b)=some r):a=r∨b=some r:=by
 by_cases hc:c
 ·rw[if_pos hc]at h;exact .inl (Option.some.inj h)
 rw[if_neg hc]at h;exact .inr h
theorem wB{v:VVm}{name:Str}{x:List Int}{r:VVm×List Int×Int}(h:fw v name x=some r):r.2.1=[]:=by
 unfold fw at h
 rcases aJ h with rfl|h
 ·rfl
 rcases aJ h with rfl|h
 ·rfl
 rcases aJ h with rfl|h
 ·rfl
 rcases aJ h with rfl|h
 ·rfl
 cases h
theorem BM{v:VVm}(hv:bX v){name:Str}{x:List Int}{r:Str×Int}(h:i8 v name x=some r):r.1.length≤140737488355328:=by
 have h0:=hv.out2
 have h1:=hv.mem.b
 unfold i8 at h
 rcases aJ h with rfl|h
 ·show 1≤_;omega
 rcases aJ h with rfl|h
 ·show 1≤_;omega
 rcases aJ h with rfl|h
 ·show 1≤_;omega
 rcases aJ h with rfl|h
 ·show(j6 v x).length≤_;unfold j6;rw[List.length_replicate];omega
 rcases aJ h with rfl|h
 ·have:=qM v.mem (xat x 0) (xat x 1);omega
 rcases aJ h with rfl|h
 ·have:=oR (xat x 0) (eO v);show(_++[_]).length≤_;rw[List.length_append];show _+1≤_;omega
 rcases aJ h with rfl|h
 ·have:=mO (xat x 0) (eO v);show(_++[_]).length≤_;rw[List.length_append];show _+1≤_;omega
 cases h
theorem Jr(v:VVm)(hv:bX v)(hc:ae v.conf.mem)(n:Int)(name:Str)(x:List Int)(hx:∀i,ae (xat x i))(hl:aU n name≤x.length):ab Tryz.prog 118 [eVm v,i64 n,str name,sq af x] (tRs (aY v n name x)):=by
 rw[aP]at hl
 by_cases h1:n≤58
 ·rw[if_pos h1]at hl
  exact Js v n name x h1 hl (hx 0) (hx 1)
 rw[if_neg h1]at hl
 by_cases h2:n≤72
 ·rw[if_pos h2]at hl
  exact Lh v n name x h1 h2 hl (hx 0)
 rw[if_neg h2]at hl
 have k0:=CF name x hx hl
 rcases e0:dn name x with _|r
 rotate_left
 ·rw[e0]at k0;exact AG v n name x h1 h2 r e0 k0
 rw[e0]at k0
 have k1:=CS v hv name x hx hl
 rcases e1:cM v name x with _|r
 rotate_left
 ·rw[e1]at k1;exact Aq v n name x h1 h2 e0 k0 r e1 k1
 rw[e1]at k1
 have k2:=Fa v hv name x hx hl
 rcases e2:fw v name x with _|r
 rotate_left
 ·rw[e2]at k2;exact Bn v n name x h1 h2 e0 k0 e1 k1 r e2 k2 (wB e2)
 rw[e2]at k2
 have k3:=Lm v hv name x hx hl
 rcases e3:i8 v name x with _|r
 rotate_left
 ·rw[e3]at k3
  by_cases hz:r.2=0
  ·exact xF v n name x h1 h2 e0 k0 e1 k1 e2 k2 r e3 k3 hz (Gw v r.1 hv.out1 hv.out (BM hv e3))
  exact vG v n name x h1 h2 e0 k0 e1 k1 e2 k2 r e3 k3 hz
 rw[e3]at k3
 have k4:=B1 v hv hc name x hx hl
 rcases e4:jm v name x with _|r
 rotate_left
 ·rw[e4]at k4;exact zA v n name x h1 h2 e0 k0 e1 k1 e2 k2 e3 k3 r e4 k4
 rw[e4]at k4
 have k5:=MY v hv name x hx hl
 rcases e5:iI v name x with _|r
 rotate_left
 ·rw[e5]at k5;exact KI v n name x h1 h2 e0 k0 e1 k1 e2 k2 e3 k3 e4 k4 r e5 k5
 rw[e5]at k5
 have hm:v.mem.b.length≤140737488355328:=by have:=hv.mem.b;omega
 exact GF v n name x h1 h2 e0 k0 e1 k1 e2 k2 e3 k3 e4 k4 e5 k5 _ rfl (IX v hm name x hx hl)
theorem cT{α:Type}{β:Type}{c:Prop}[Decidable c]{a b:α×List Int×β}{n:Nat}(ha:a.2.1.length≤n)(hb:b.2.1.length≤n):(if c then a else b).2.1.length≤n:=by split<;>assumption
theorem JJ{name:Str}{x:List Int}{r:List Int×Int}(h:dn name x=some r):r.1.length≤2:=by
 unfold dn at h
 rcases aJ h with rfl|h
 ·exact Nat.le_of_ble_eq_true rfl
 rcases aJ h with rfl|h
 ·exact Nat.le_of_ble_eq_true rfl
 rcases aJ h with rfl|h
 ·exact Nat.le_of_ble_eq_true rfl
 rcases aJ h with rfl|h
 ·exact Nat.le_of_ble_eq_true rfl
 rcases aJ h with rfl|h
 ·exact Nat.le_of_ble_eq_true rfl
 rcases aJ h with rfl|h
 ·exact Nat.le_of_ble_eq_true rfl
 rcases aJ h with rfl|h
 ·exact Nat.le_of_ble_eq_true rfl
 rcases aJ h with rfl|h
 ·exact Nat.le_of_ble_eq_true rfl
 rcases aJ h with rfl|h
 ·exact Nat.le_of_ble_eq_true rfl
 rcases aJ h with rfl|h
 ·exact Nat.le_of_ble_eq_true rfl
 rcases aJ h with rfl|h
 ·exact Nat.le_of_ble_eq_true rfl
 rcases aJ h with rfl|h
 ·exact Nat.le_of_ble_eq_true rfl
 rcases aJ h with rfl|h
 ·exact Nat.le_of_ble_eq_true rfl
 rcases aJ h with rfl|h
 ·exact Nat.le_of_ble_eq_true rfl
 rcases aJ h with rfl|h
 ·exact Nat.le_of_ble_eq_true rfl
 cases h
theorem JT{v:VVm}{name:Str}{x:List Int}{r:VVm×List Int×Int}(h:cM v name x=some r):r.2.1.length≤2:=by
 unfold cM at h
 rcases aJ h with rfl|h
 ·exact Nat.le_of_ble_eq_true rfl
 rcases aJ h with rfl|h
 ·exact Nat.le_of_ble_eq_true rfl
 rcases aJ h with rfl|h
 ·exact Nat.le_of_ble_eq_true rfl
 rcases aJ h with rfl|h
 ·exact Nat.le_of_ble_eq_true rfl
 rcases aJ h with rfl|h
 ·exact Nat.le_of_ble_eq_true rfl
 rcases aJ h with rfl|h
 ·unfold fH;exact cT (Nat.le_of_ble_eq_true rfl) (Nat.le_of_ble_eq_true rfl)
 rcases aJ h with rfl|h
 ·exact Nat.le_of_ble_eq_true rfl
 rcases aJ h with rfl|h
 ·exact Nat.le_of_ble_eq_true rfl
 rcases aJ h with rfl|h
 ·exact Nat.le_of_ble_eq_true rfl
 rcases aJ h with rfl|h
 ·exact Nat.le_of_ble_eq_true rfl
 rcases aJ h with rfl|h
 ·exact Nat.le_of_ble_eq_true rfl
 rcases aJ h with rfl|h
 ·exact Nat.le_of_ble_eq_true rfl
 rcases aJ h with rfl|h
 ·unfold cU;exact cT (Nat.le_of_ble_eq_true rfl) (Nat.le_of_ble_eq_true rfl)
 rcases aJ h with rfl|h
 ·unfold dG;exact cT (Nat.le_of_ble_eq_true rfl) (Nat.le_of_ble_eq_true rfl)
 cases h
theorem Ow{v:VVm}{name:Str}{x:List Int}{r:VVm×List Int×Int}(h:jm v name x=some r):r.2.1.length≤2:=by
 unfold jm at h
 rcases aJ h with rfl|h
 ·exact Nat.le_of_ble_eq_true rfl
 rcases aJ h with rfl|h
 ·exact Nat.le_of_ble_eq_true rfl
 rcases aJ h with rfl|h
 ·exact Nat.le_of_ble_eq_true rfl
 rcases aJ h with rfl|h
 ·exact Nat.le_of_ble_eq_true rfl
 rcases aJ h with rfl|h
 ·exact Nat.le_of_ble_eq_true rfl
 rcases aJ h with rfl|h
 ·unfold nH;exact cT (Nat.le_of_ble_eq_true rfl) (Nat.le_of_ble_eq_true rfl)
 cases h
theorem C8(k:Int)(v:VVm)(x:List Int):(bn k v x).2.1.length≤2:=by
 unfold bn
 exact cT (Nat.le_of_ble_eq_true rfl) (cT (Nat.le_of_ble_eq_true rfl) (cT (Nat.le_of_ble_eq_true rfl) (cT (Nat.le_of_ble_eq_true rfl) (Nat.le_of_ble_eq_true rfl))))
theorem RX{v:VVm}{name:Str}{x:List Int}{r:VVm×List Int×Int}(h:iI v name x=some r):r.2.1.length≤2:=by
 unfold iI at h
 rcases aJ h with rfl|h
 ·unfold ex;exact cT (Nat.le_of_ble_eq_true rfl) (cT (Nat.le_of_ble_eq_true rfl) (Nat.le_of_ble_eq_true rfl))
 rcases aJ h with rfl|h
 ·unfold em;exact cT (Nat.le_of_ble_eq_true rfl) (Nat.le_of_ble_eq_true rfl)
 rcases aJ h with rfl|h
 ·exact C8 2 v x
 rcases aJ h with rfl|h
 ·exact C8 3 v x
 cases h
theorem OK(v:VVm)(name:Str)(x:List Int):(ng v name x).2.1.length≤2:=by
 unfold ng
 exact cT (Nat.le_of_ble_eq_true rfl) (cT (Nat.le_of_ble_eq_true rfl) (cT (Nat.le_of_ble_eq_true rfl) (cT (Nat.le_of_ble_eq_true rfl) (cT (by unfold kz;exact cT (Nat.le_of_ble_eq_true rfl) (Nat.le_of_ble_eq_true rfl)) (Nat.le_of_ble_eq_true rfl)))))
theorem Id(v:VVm)(n:Int)(name:Str)(x:List Int):(aY v n name x).2.1.length≤2:=by
 unfold aY
 refine cT (Nat.le_of_ble_eq_true rfl) (cT (Nat.le_of_ble_eq_true rfl) ?_)
 rcases e0:dn name x with _|r
 rotate_left
 ·exact JJ e0
 rcases e1:cM v name x with _|r
 rotate_left
 ·exact JT e1
 rcases e2:fw v name x with _|r
 rotate_left
 ·have:=wB e2;simp only[this];exact Nat.zero_le _
 rcases e3:i8 v name x with _|r
 rotate_left
 ·simp only[cZ];exact cT (Nat.zero_le _) (Nat.zero_le _)
 rcases e4:jm v name x with _|r
 rotate_left
 ·exact Ow e4
 rcases e5:iI v name x with _|r
 rotate_left
 ·exact RX e5
 exact OK v name x
theorem Mj{c:Prop}[Decidable c]{a b n:Nat}(ha:a≤n)(hb:b≤n):(if c then a else b)≤n:=by split<;>assumption
theorem zH(n:Int)(name:Str):aU n name≤4:=by
 unfold aU
 repeat' (first|exact Nat.le_of_ble_eq_true rfl|refine Mj ?_ ?_)
theorem Ck(v:VVm)(n:Int)(hn:¬(23≤n∧n≤129)):ab Tryz.prog 68 [eVm v,i64 n] (tVm (v,-24)):=by
 refine pW tG (rs:=[.cell 4 36,.tmp 5]) Tryz.func68 rfl rfl rfl (by simp) (by simp) (fun B=>?_)
 refine zu3 ?_
 refine zp1 ?_
 refine zc rfl Tryz.func115 ((pJ n) _) ?_
 refine zs1 ?_
 refine Ws ?_
 refine zu2 ?_
 refine Wt rfl (by rw[decide_eq_false hn];rfl) ?_
 refine zu3 ?_
 refine zR ?_
 rfl
theorem tM(v:VVm)(n:Int)(h0:23≤n)(h1:n≤38)(hd:v.d.length≤50000)(hm:ae v.conf.data):
  ab Tryz.prog 68 [eVm v,i64 n] (tVm ({v with d:=(bR (ao.getD n.toNat []) v.d v.conf.data).1},(bR (ao.getD n.toNat []) v.d v.conf.data).2.2)):=by
 have hN:=kg
 refine pW tG (rs:=[.cell 4 36,.tmp 5]) Tryz.func68 rfl rfl rfl (by simp) (by simp) (fun B=>?_)
 refine zu3 ?_
 refine zp1 ?_
 refine zc rfl Tryz.func115 ((pJ n) _) ?_
 refine zs1 ?_
 refine Ws ?_
 refine zu2 ?_
 refine Wf rfl (by rw[decide_eq_true ⟨h0,by omega⟩];rfl) ?_
 refine Wj ?_
 refine z8 ?_
 refine zc rfl Tryz.func69 ((jw) _) ?_
 refine z1 ?_
 refine Wv tG rfl rfl rfl (by omega) (iR fP 1 (fun _=>rfl) [] (by omega)) ?_
 refine zs2 ?_
 refine Ws ?_
 refine zu2 ?_
 refine Wt rfl (by exact decide_eq_true h1) ?_
 refine zp5 ?_
 refine z1 ?_
 refine zc rfl Tryz.func116 ((zj _ v.d v.conf.data hd hm) _) ?_
 refine zy5 ?_
 refine zs2 ?_
 refine zu3 ?_
 refine zu4 ?_
 refine zR ?_
 rfl
theorem y4(v:VVm)(n:Int)(k:Nat)(r:VVm×List Int×Int)(h0:39≤n)(h1:n≤129)(hdl:v.d.length≤100000)(hm:ae v.conf.data)(hk:k≤4)(hr:r.2.1.length≤2)
  (ht:ab Tryz.prog 117 [i64 n,str (ao.getD n.toNat [])] (i64 (k:Int))) (hd:k≤v.d.length→ab Tryz.prog 118 [eVm v,i64 n,str (ao.getD n.toNat []),sq af (v.d.drop (v.d.length-k))] (tRs r)):ab Tryz.prog 68 [eVm v,i64 n] (tVm (doR v k r)):=by
 have hN:=kg
 have ht2:(v.d.take (v.d.length-k)).length=v.d.length-k:=by rw[List.length_take];omega
 refine pW tG (rs:=[.cell 4 36,.tmp 5]) Tryz.func68 rfl rfl rfl (by simp) (by simp) (fun B=>?_)
 refine zu3 ?_
 refine zp1 ?_
 refine zc rfl Tryz.func115 ((pJ n) _) ?_
 refine zs1 ?_
 refine Ws ?_
 refine zu2 ?_
 refine Wf rfl (by rw[decide_eq_true ⟨by omega,h1⟩];rfl) ?_
 refine Wj ?_
 refine z8 ?_
 refine zc rfl Tryz.func69 ((jw) _) ?_
 refine z1 ?_
 refine Wv tG rfl rfl rfl (by omega) (iR fP 1 (fun _=>rfl) [] (by omega)) ?_
 refine zs2 ?_
 refine Ws ?_
 refine zu2 ?_
 refine Wf rfl (by exact decide_eq_false (by omega)) ?_
 refine Wj ?_
 refine zp2 ?_
 refine zc rfl Tryz.func117 ((ht) _) ?_
 refine zs1 ?_
 refine Ws ?_
 refine zu5 ?_
 refine Wi rfl (fun hi3=>?_) (fun hi3=>?_)
 ·have q0:v.d.length<k:=by(try simp only[dnL]at *);omega
  refine zu3 ?_
  refine zR ?_
  rw[doR,if_pos q0];rfl
 have q0:¬v.d.length<k:=by(try simp only[dnL]at *);omega
 have w1:IntKind.i64.wrap ((v.d.length:Int)-(k:Int))=((v.d.length-k:Nat):Int):=by((rw[aK];unfold wrap64;(try simp only[dnL]at *);omega))
 have w2:IntKind.i64.wrap (((v.d.take (v.d.length-k)).length:Int)+(r.2.1.length:Int))=((v.d.length-k+r.2.1.length:Nat):Int):=by rw[ht2];((rw[aK];unfold wrap64;(try simp only[dnL]at *);omega))
 refine Wj ?_
 refine zp5 ?_
 refine zy2 ?_
 refine Wa 57 rfl (congrArg (fun z=>PV.val (Value.int .i64 z)) w1) ?_
 refine z2 ?_ (q:=(by(simp_all;done)))
 refine Wa 58 rfl (bM af 1 (fun _=>rfl) (by omega)) ?_
 refine Wa 58 rfl ((show _=sq af (v.d.take (v.d.length-k)) by rw[Int.toNat_natCast,List.drop_zero];rfl)) ?_
 refine zs1 ?_
 refine Ws ?_
 refine ai [1,0,0,0,1,0,1,0,0,0,0,0,0,0,0,0,2,3,0,0] [0,1,2,3,4,5,6,7,8,9,10,11,12,13,14,15,16,17,18,19] mG rfl (by kernel_rfl) ?_
 refine z5 ?_
 iterate 3 refine z3 ?_
 refine z5 ?_
 refine z3 ?_
 refine z5 ?_
 iterate 3 refine z3 ?_
 refine Xa 69 rfl (congrArg (fun z=>PV.val (Value.int .i64 z)) w1) ?_
 refine z4 ?_ (q:=(by(simp_all;done)))
 refine Xa 70 rfl (bM af 1 (fun _=>rfl) (by omega)) ?_
 refine Xa 70 rfl ((show _=sq af (v.d.drop (v.d.length-k)) by rw[List.take_length,Int.toNat_natCast];rfl)) ?_
 refine Xc rfl rfl rfl rfl (fun _=>dC rfl Tryz.func118 rfl rfl ((hd (by omega)) _)) ?_
 iterate 4 refine z3 ?_
 refine kw tG rfl rfl rfl rfl rfl trivial rfl ?_
 refine aZ tG rfl rfl rfl rfl rfl trivial ?_
 iterate 2 refine z3 ?_
 refine ah ?_
 refine Ws ?_
 refine zu2 ?_
 refine Wi rfl (fun hi4=>?_) (fun hi4=>?_)
 ·have q1:r.2.2≠0:=bne_iff_ne.1 hi4
  refine zu4 ?_
  refine zR ?_
  rw[doR,if_neg q0,if_pos q1];rfl
 have q1:¬r.2.2≠0:=fun h=>h (bne_eq_false_iff_eq.1 hi4)
 refine Wj ?_
 refine Ws ?_
 refine zp5 ?_
 refine Wa 83 rfl (congrArg (fun z=>PV.val (Value.int .i64 z)) w2) ?_
 refine zs4 ?_
 refine Wi rfl (fun hi5=>?_) (fun hi5=>?_)
 ·have q2:v.conf.data<((v.d.length-k+r.2.1.length:Nat):Int):=oT hi5
  refine zu3 ?_
  refine zR ?_
  rw[doR,if_neg q0,if_neg q1,if_pos q2];rfl
 have q2:¬v.conf.data<((v.d.length-k+r.2.1.length:Nat):Int):=oF hi5
 refine Wj ?_
 refine zp2 ?_
 refine Wd rfl rfl (aC (lO tG rfl) rfl (lO tG rfl) (lO tG rfl) rfl rfl (by exact⟨_,rfl⟩) (by exact⟨rfl,rfl,ag _ 1 (fun _=>rfl) _,aB _ (fun _=>rfl) _⟩) (by rfl) (by(dsimp only;omega)) (by(simp;omega))) ?_
 refine Wa 91 rfl (i4 af) ?_
 refine z1 ?_
 refine Wd rfl rfl (aF (lO tG rfl) rfl (lO tG rfl) (lO tG rfl) rfl rfl rfl rfl (by simp) (by exact⟨_,rfl⟩) (by exact⟨rfl,rfl,ag _ 1 (fun _=>rfl) _,aB _ (fun _=>rfl) _⟩) (by(dsimp only;omega)) (by(simp;omega))) ?_
 refine Wa 93 rfl (aM af) ?_
 refine zs2 ?_
 refine zu3 ?_
 refine zR ?_
 rw[doR,if_neg q0,if_neg q1,if_neg q2];rfl
theorem IH(v:VVm)(hv:bX v)(hc:ae v.conf.mem)(n:Int):ab Tryz.prog 68 [eVm v,i64 n] (tVm (doS v n)):=by
 by_cases hn:23≤n∧n≤129
 ·by_cases h1:n≤38
  ·have h:=tM v n hn.1 h1 hv.d hv.data
   have e:doS v n=({v with d:=(bR (ao.getD n.toNat []) v.d v.conf.data).1},(bR (ao.getD n.toNat []) v.d v.conf.data).2.2):=by
    unfold doS
    rw[if_neg (by omega)]
    simp only
    rw[if_pos h1]
   rw[e];exact h
  rw[aE (by omega) hn.2]
  have hd:=hv.d
  exact y4 v n _ _ (by omega) hn.2 (by omega) hv.data (zH _ _) (Id _ _ _ _) (AN n _) fun hk=>Jr v hv hc n _ _ (fun i=>(hv.x hk).fit i) (hv.x hk).len
 have e:doS v n=(v,-24):=by unfold doS;rw[if_pos (by omega)]
 rw[e];exact Ck v n hn
section
variable (k : VWk) {M : Nat} (h : KD M k) (hM : M ≤ 900000)
def mcC(k:VWk)(xt:Int):VWk:=(az (az k (W64 (xt+16))).1 (W64 (xt+24))).1
def mcS(k:VWk)(xt:Int):Int:=(az k (W64 (xt+16))).2
def mcN(k:VWk)(xt:Int):Int:=(az (az k (W64 (xt+16))).1 (W64 (xt+24))).2
theorem G9{xt:Int}{c:VWk}(hc:(if mcS k xt<0∨mcN k xt≤mcS k xt then bL (mcC k xt) (-24)else mcC k xt)=c):lW k xt=if (az c (W64 (W64 (xt+32)+W64 (8*mcS k xt)))).2=0 then(az c (W64 (W64 (xt+32)+W64 (8*mcS k xt)))).1 else sL (az c (W64 (W64 (xt+32)+W64 (8*mcS k xt)))).1 (az c (W64 (W64 (xt+32)+W64 (8*mcS k xt)))).2:=by
 subst hc;rfl
include h
theorem Fl(xt:Int):∀(H:List Ob) (i:Nat),H[i]?=some (.cells (cWk k) 80)→HC Tryz.prog 67 (.ptr i 0::[i64 xt]) H (.tup []) (H.set i (.cells (cWk (lW k xt)) 80)):=by
 have f1:=ic h (W64 (xt+16))
 have f2:KD M (mcC k xt):=(ic f1.1 (W64 (xt+24))).1
 refine aO tG (rs:=[]) Tryz.func67 rfl rfl rfl (by simp) (by simp) (by simp) (by simp) (fun B=>?_)
 refine zp3 ?_
 refine zc rfl Tryz.func29 ((iW k h (W64 (xt+16)) (bl _)) _ _ rfl) ?_
 refine zs1 ?_
 refine zp3 ?_
 refine zc rfl Tryz.func29 ((iW _ f1.1 (W64 (xt+24)) (bl _)) _ _ rfl) ?_
 refine zs1 ?_
 refine Ws ?_
 refine zp3 ?_
 refine Wb 17 rfl (fun hg1=>?_) (fun hg1=>?_)
 ·have q1:mcS k xt<0∨mcN k xt≤mcS k xt:=.inl (show(az k (W64 (xt+16))).2<0 from oT hg1)
  have hc:=G9 k (xt:=xt) (if_pos q1)
  iterate 3 refine z6 ?_
  refine zs1 ?_
  refine Wt rfl rfl ?_
  refine aa rfl ?_
  refine z1 ?_
  refine zc rfl Tryz.func63 ((fM (mcC k xt) (-24)) _ _ rfl) ?_
  refine Wn ?_
  refine zp5 ?_
  refine z1 ?_
  refine zc rfl Tryz.func29 ((iW _ (by exact dT f2 _) _ (bl _)) _ _ rfl) ?_
  refine zs1 ?_
  refine zu2 ?_
  refine Wi rfl (fun hi1=>?_) (fun hi1=>?_)
  ·refine aa rfl ?_
   refine zy2 ?_
   refine zc rfl Tryz.func114 ((rH _ _) _ _ rfl) ?_
   refine Wn ?_
   refine cd rfl rfl ?_ ?_
   ·rfl
   rw[hc];exact Eq.trans rfl (congrArg cWk (if_neg (show ¬(az _ (W64 (W64 (xt+32)+W64 (8*mcS k xt)))).2=0 from bne_iff_ne.1 hi1)).symm)
  refine Wj ?_
  refine cd rfl rfl ?_ ?_
  ·rfl
  rw[hc];exact Eq.trans rfl (congrArg cWk (if_pos (show(az _ (W64 (W64 (xt+32)+W64 (8*mcS k xt)))).2=0 from bne_eq_false_iff_eq.1 hi1)).symm)
 refine zs4 ?_
 refine Wi rfl (fun hi2=>?_) (fun hi2=>?_)
 ·have q1:mcS k xt<0∨mcN k xt≤mcS k xt:=.inr (show(az (az k (W64 (xt+16))).1 (W64 (xt+24))).2≤(az k (W64 (xt+16))).2 from oT hi2)
  have hc:=G9 k (xt:=xt) (if_pos q1)
  refine aa rfl ?_
  refine z1 ?_
  refine zc rfl Tryz.func63 ((fM (mcC k xt) (-24)) _ _ rfl) ?_
  refine Wn ?_
  refine zp5 ?_
  refine z1 ?_
  refine zc rfl Tryz.func29 ((iW _ (by exact dT f2 _) _ (bl _)) _ _ rfl) ?_
  refine zs1 ?_
  refine zu2 ?_
  refine Wi rfl (fun hi1=>?_) (fun hi1=>?_)
  ·refine aa rfl ?_
   refine zy2 ?_
   refine zc rfl Tryz.func114 ((rH _ _) _ _ rfl) ?_
   refine Wn ?_
   refine cd rfl rfl ?_ ?_
   ·rfl
   rw[hc];exact Eq.trans rfl (congrArg cWk (if_neg (show ¬(az _ (W64 (W64 (xt+32)+W64 (8*mcS k xt)))).2=0 from bne_iff_ne.1 hi1)).symm)
  refine Wj ?_
  refine cd rfl rfl ?_ ?_
  ·rfl
  rw[hc];exact Eq.trans rfl (congrArg cWk (if_pos (show(az _ (W64 (W64 (xt+32)+W64 (8*mcS k xt)))).2=0 from bne_eq_false_iff_eq.1 hi1)).symm)
 have q1:¬(mcS k xt<0∨mcN k xt≤mcS k xt):=fun q=>q.elim (fun q=>absurd (show(az k (W64 (xt+16))).2<0 from q) (oF hg1)) (fun q=>absurd (show(az k (W64 (xt+16))).2≥(az (az k (W64 (xt+16))).1 (W64 (xt+24))).2 from q) (oF hi2))
 have hc:=G9 k (xt:=xt) (if_neg q1)
 refine Wj ?_
 refine zp5 ?_
 refine z1 ?_
 refine zc rfl Tryz.func29 ((iW _ (by exact f2) _ (bl _)) _ _ rfl) ?_
 refine zs1 ?_
 refine zu2 ?_
 refine Wi rfl (fun hi1=>?_) (fun hi1=>?_)
 ·refine aa rfl ?_
  refine zy2 ?_
  refine zc rfl Tryz.func114 ((rH _ _) _ _ rfl) ?_
  refine Wn ?_
  refine cd rfl rfl ?_ ?_
  ·rfl
  rw[hc];exact Eq.trans rfl (congrArg cWk (if_neg (show ¬(az _ (W64 (W64 (xt+32)+W64 (8*mcS k xt)))).2=0 from bne_iff_ne.1 hi1)).symm)
 refine Wj ?_
 refine cd rfl rfl ?_ ?_
 ·rfl
 rw[hc];exact Eq.trans rfl (congrArg cWk (if_pos (show(az _ (W64 (W64 (xt+32)+W64 (8*mcS k xt)))).2=0 from bne_eq_false_iff_eq.1 hi1)).symm)
theorem OY{xt:Int}(q:(aq k.v xt).2≠0):nk k xt=bL k (aq k.v xt).2:=by unfold nk;dsimp only;rw[if_pos q]
theorem qO{xt:Int}(q:¬(aq k.v xt).2≠0):nk k xt=(if 300≤(aq k.v xt).1 then bL k (-14)else
 if (aq k.v xt).1=256 then {cC k k.ip with ip:=W64 (xt+8)} else
 if (aq k.v xt).1=257 then eZ k (W64 (xt+16))else
 if (aq k.v xt).1=258 then eZ (az k (W64 (xt+16))).1 (az k (W64 (xt+16))).2 else
 if (aq k.v xt).1=259 then {cC (eZ (az k (W64 (xt+8))).1 (W64 (xt+16))) (eZ (az k (W64 (xt+8))).1 (W64 (xt+16))).ip with ip:=(az k (W64 (xt+8))).2} else
 if (aq k.v xt).1=260 then lW k xt else
 if 23≤(aq k.v xt).1 then {bL k (doS k.v (aq k.v xt).1).2 with v:=(doS k.v (aq k.v xt).1).1} else
 if (fF k (ao.getD (aq k.v xt).1.toNat [])).2 then(fF k (ao.getD (aq k.v xt).1.toNat [])).1 else sy (fF k (ao.getD (aq k.v xt).1.toNat [])).1 (ao.getD (aq k.v xt).1.toNat [])):=by
 unfold nk;dsimp only;rw[if_neg q]
end
open Go.RowKit
section
variable (k : VWk) {M : Nat} (h : KD M k) (hM : M ≤ 800000)
include h
theorem DW(n:Int):KD M (lF k n):=by
 have h1:=pu h 1
 have h2:KD M (lpA k):=(pu h1.1 0).1
 have h3:=lj h2
 by_cases q:(lpA k).bad≠0
 ·rw[Iu k q];exact h2
 by_cases q2:(dQ (lpI k) (cS k 1).2 n).2=true
 ·rw[Dp k q q2];exact qr (lj h3.1).1
 rw[NJ k q q2];exact Dc (iU h3.1 (qH _ _ _))
theorem Mq(name:Str):KD (M+2) (fF k name).1:=by
 have p1:=rR h
 have p2:=rR p1.1
 have f1:=ic h k.ip
 have r1:=lj h
 have up:∀{x:VWk},KD M x→KD (M+2) x:=fun q=>q.up (by omega)
 by_cases h1:name=[40,101,120,105,116,41]
 ·subst h1;exact up (D5 r1.1 r1.2)
 by_cases h2:name=[40,108,105,116,41]
 ·subst h2;exact up (qr (jA f1.1 f1.2))
 by_cases h3:name=[40,98,114,97,110,99,104,41]
 ·subst h3;exact up (Dc h)
 by_cases h4:name=[40,48,98,114,97,110,99,104,41]
 ·subst h4
  by_cases q:(bt k).2=0
  ·rw[Dn k q];exact up (Dc p1.1)
  rw[DF k q];exact up (qr p1.1)
 by_cases h5:name=[40,100,111,41]
 ·subst h5;exact up (iU (iU p2.1 p2.2) p1.2)
 by_cases h6:name=[40,63,100,111,41]
 ·subst h6
  by_cases q:(bt k).2=(bt (bt k).1).2
  ·rw[DQ k q];exact up (Dc p2.1)
  rw[C7 k q];exact up (qr (iU (iU p2.1 p2.2) p1.2))
 by_cases h7:name=[40,108,111,111,112,41]
 ·subst h7;exact up (DW k h 1)
 by_cases h8:name=[40,43,108,111,111,112,41]
 ·subst h8;exact up (DW _ p1.1 _)
 by_cases h9:name=[40,104,97,108,116,41]
 ·subst h9;exact up ⟨h.v,h.ip,h.w⟩
 by_cases h10:name=[40,99,97,117,103,104,116,41]
 ·subst h10
  by_cases q:k.v.f.length=0
  ·rw[Dj k q];exact up (dT h _)
  rw[DJ k q];exact up (jA (wF k h q) bQ)
 by_cases h11:name=[40,100,111,101,115,41]
 ·subst h11
  by_cases q:k.v.last=0∨(aq k.v k.v.last).2≠0∨((aq k.v k.v.last).1≠257∧(aq k.v k.v.last).1≠259)
  ·rw[tb k q];exact up (dT h _)
  rw[xL k q]
  have s:=lj (jH (jH h k.v.last 259) (W64 ((fD k k.v.last 259).v.last+8)) (fD k k.v.last 259).ip)
  exact D5 s.1 s.2
 by_cases h12:name=[40,115,116,114,41]
 ·subst h12
  by_cases q:ay (az k k.ip).1.v.mem (W64 (k.ip+8)) (az k k.ip).2=true
  ·rw[D7 k q];exact up (D5 (jA (jA f1.1 (bl _)) f1.2) (vh _ (bl _)))
  rw[Do k q];exact up (D5 (jA (jA (dT f1.1 _) (bl _)) f1.2) (vh _ (bl _)))
 rw[rV h1 h2 h3 h4 h5 h6 h7 h8 h9 h10 h11 h12]
 exact up h
include hM
theorem PN(hv:bX k.v)(hc:ae k.v.conf.mem)(xt:Int)(hx:ae xt):∀(H:List Ob) (i:Nat),H[i]?=some (.cells (cWk k) 80)→HC Tryz.prog 30 (.ptr i 0::[i64 xt]) H (.tup []) (H.set i (.cells (cWk (nk k xt)) 80)):=by
 have f8:=ic h (W64 (xt+8))
 have hN:=kg
 refine aO tG (rs:=[]) Tryz.func30 rfl rfl rfl (by simp) (by simp) (by simp) (by simp) (fun B=>?_)
 refine zp5 ?_
 refine zc rfl Tryz.func64 ((uV k.v xt (by have:=h.v.b;omega) hx) _) ?_
 refine zs5 ?_
 refine Ws ?_
 refine zu2 ?_
 refine Wi rfl (fun hi1=>?_) (fun hi1=>?_)
 ·have q1:(aq k.v xt).2≠0:=by simpa using hi1
  refine zp2 ?_
  refine zc rfl Tryz.func63 ((fM k _) _ _ rfl) ?_
  refine Wn ?_
  refine Wq ?_
  refine bj rfl rfl ?_ ?_
  ·rfl
  (rw[OY k h q1];rfl)
 have q1:¬(aq k.v xt).2≠0:=by simpa using hi1
 have hk:=xw (v:=k.v) (xt:=xt) (by simpa using q1)
 unfold dF at hk
 refine Wj ?_
 refine Wl ?_
 refine zu3 ?_
 refine Wi rfl (fun hi2=>?_) (fun hi2=>?_)
 ·have q2:300≤(aq k.v xt).1:=oT hi2
  refine aa rfl ?_
  refine z1 ?_
  refine zc rfl Tryz.func63 ((fM k (-14)) _ _ rfl) ?_
  refine Wn ?_
  refine cd rfl rfl ?_ ?_
  ·rfl
  (rw[qO k h q1];((rw[if_pos q2];rfl)))
 have q2:¬300≤(aq k.v xt).1:=oF hi2
 refine zu3 ?_
 refine Wi rfl (fun hi3=>?_) (fun hi3=>?_)
 ·have q3:(aq k.v xt).1=256:=by simpa using hi3
  refine zp5 ?_
  refine zc rfl Tryz.func65 ((jF k h _) _ _ rfl) ?_
  refine Wn ?_
  refine aa rfl ?_
  refine zy5 ?_
  refine zs1 ?_
  refine cd rfl rfl ?_ ?_
  ·rfl
  (rw[qO k h q1];((rw[if_neg q2,if_pos q3];rfl)))
 have q3:¬(aq k.v xt).1=256:=by simpa using hi3
 refine zu3 ?_
 refine Wi rfl (fun hi4=>?_) (fun hi4=>?_)
 ·have q4:(aq k.v xt).1=257:=by simpa using hi4
  refine aa rfl ?_
  refine zy3 ?_
  refine zc rfl Tryz.func66 ((iv k h _) _ _ rfl) ?_
  refine Wn ?_
  refine cd rfl rfl ?_ ?_
  ·rfl
  (rw[qO k h q1];((rw[if_neg q2,if_neg q3,if_pos q4];rfl)))
 have q4:¬(aq k.v xt).1=257:=by simpa using hi4
 refine zu3 ?_
 refine Wi rfl (fun hi5=>?_) (fun hi5=>?_)
 ·have q5:(aq k.v xt).1=258:=by simpa using hi5
  refine zp3 ?_
  refine zc rfl Tryz.func29 ((iW k h _ (bl _)) _ _ rfl) ?_
  refine zs1 ?_
  refine aa rfl ?_
  refine zy2 ?_
  refine zc rfl Tryz.func66 ((iv _ (ic h _).1 _) _ _ rfl) ?_
  refine Wn ?_
  refine cd rfl rfl ?_ ?_
  ·rfl
  (rw[qO k h q1];((rw[if_neg q2,if_neg q3,if_neg q4,if_pos q5];rfl)))
 have q5:¬(aq k.v xt).1=258:=by simpa using hi5
 refine zu3 ?_
 refine Wi rfl (fun hi6=>?_) (fun hi6=>?_)
 ·have q6:(aq k.v xt).1=259:=by simpa using hi6
  refine zp3 ?_
  refine zc rfl Tryz.func29 ((iW k h _ (bl _)) _ _ rfl) ?_
  refine zs1 ?_
  refine zp3 ?_
  refine zc rfl Tryz.func66 ((iv _ f8.1 _) _ _ rfl) ?_
  refine Wn ?_
  refine zp5 ?_
  refine zc rfl Tryz.func65 ((jF _ (jA f8.1 (bl _)) _) _ _ rfl) ?_
  refine Wn ?_
  refine aa rfl ?_
  refine zs5 ?_
  refine cd rfl rfl ?_ ?_
  ·rfl
  (rw[qO k h q1];((rw[if_neg q2,if_neg q3,if_neg q4,if_neg q5,if_pos q6];rfl)))
 have q6:¬(aq k.v xt).1=259:=by simpa using hi6
 refine zu3 ?_
 refine Wi rfl (fun hi7=>?_) (fun hi7=>?_)
 ·have q7:(aq k.v xt).1=260:=by simpa using hi7
  refine aa rfl ?_
  refine zy2 ?_
  refine zc rfl Tryz.func67 ((Fl k h xt) _ _ rfl) ?_
  refine Wn ?_
  refine cd rfl rfl ?_ ?_
  ·rfl
  (rw[qO k h q1];((rw[if_neg q2,if_neg q3,if_neg q4,if_neg q5,if_neg q6,if_pos q7];rfl)))
 have q7:¬(aq k.v xt).1=260:=by simpa using hi7
 refine zu3 ?_
 refine Wi rfl (fun hi8=>?_) (fun hi8=>?_)
 ·have q8:23≤(aq k.v xt).1:=oT hi8
  refine zp5 ?_
  refine zc rfl Tryz.func68 ((IH k.v hv hc _) _) ?_
  refine zy5 ?_
  refine zs1 ?_
  refine zp2 ?_
  refine zc rfl Tryz.func63 ((fM k _) _ _ rfl) ?_
  refine Wn ?_
  refine aa rfl ?_
  refine zs5 ?_
  refine cd rfl rfl ?_ ?_
  ·rfl
  (rw[qO k h q1];((rw[if_neg q2,if_neg q3,if_neg q4,if_neg q5,if_neg q6,if_neg q7,if_pos q8];rfl)))
 have q8:¬23≤(aq k.v xt).1:=oF hi8
 refine z8 ?_
 refine zc rfl Tryz.func69 ((jw) _) ?_
 refine z1 ?_
 refine Wv tG rfl rfl rfl (by(try simp only[dnL]at *);omega) (iR fP 1 (fun _=>rfl) [] (by omega)) ?_
 refine zs2 ?_
 refine zp2 ?_
 refine zc rfl Tryz.func70 ((Or k h (by omega) _) _ _ rfl) ?_
 refine zs1 ?_
 refine zu2 ?_
 refine Wi rfl (fun hi9=>?_) (fun hi9=>?_)
 ·have q9:¬(fF k (ao.getD (aq k.v xt).1.toNat [])).2=true:=by simpa using hi9
  refine aa rfl ?_
  refine zy2 ?_
  refine zc rfl Tryz.func71 ((Pr _ (Mq k h _) (by omega) _) _ _ rfl) ?_
  refine Wn ?_
  refine cd rfl rfl ?_ ?_
  ·rfl
  (rw[qO k h q1];((rw[if_neg q2,if_neg q3,if_neg q4,if_neg q5,if_neg q6,if_neg q7,if_neg q8,if_neg q9];rfl)))
 have q9:(fF k (ao.getD (aq k.v xt).1.toNat [])).2=true:=by simpa using hi9
 refine Wj ?_
 refine cd rfl rfl ?_ ?_
 ·rfl
 (rw[qO k h q1];((rw[if_neg q2,if_neg q3,if_neg q4,if_neg q5,if_neg q6,if_neg q7,if_neg q8,if_pos q9];rfl)))
end
open Go.RowKit
theorem vr(s:List Int)(k:Nat):dw s (k+1)=dw s k++[if k<s.length then s.getD k 0 else 0]:=by
 unfold dw
 by_cases h:k<s.length
 ·rw[if_pos h,show k+1-s.length=0 by omega,show k-s.length=0 by omega,gE s k 0 h];simp
 rw[if_neg h,List.take_of_length_le (by omega),List.take_of_length_le (by omega),show k+1-s.length=(k-s.length)+1 by omega,List.replicate_succ',List.append_assoc]
theorem Qt{s:List Int}{k:Nat}{q:SK}(h:k<s.length):PV.seq (dw s k++[s.getD k 0]).length ((dw s k++[s.getD k 0]).flatMap af) q=.seq (dw s (k+1)).length ((dw s (k+1)).flatMap af) q:=by rw[vr,if_pos h]
theorem OJ{s:List Int}{k:Nat}{q:SK}(h:¬k<s.length):PV.seq (dw s k++[0]).length ((dw s k++[0]).flatMap af) q=.seq (dw s (k+1)).length ((dw s (k+1)).flatMap af) q:=by rw[vr,if_neg h]
theorem QM(s:List Int){q:SK}:PV.seq 0 [] q=.seq (dw s 0).length ((dw s 0).flatMap af) q:=by unfold dw;simp
theorem zI(s:List Int)(n:Nat)(hs:s.length≤100000)(hn:n≤100000):Gf Tryz.prog 72 [sq af s,i64 n] (dw s n).length ((dw s n).flatMap af) 1:=by
 have dl:=js s
 have dl0:=dl 0
 refine wJ tG (rs:=[.tmp 4]) Tryz.func72 rfl rfl rfl (by simp) (bW (fun x=>by simp) _) (fun B=>?_)
 refine zu1 ?_
 refine zp1 ?_
 (refine ns 5 0 1 rfl rfl ?_;refine Wa 5 rfl (QM s) ?_)
 refine Wn ?_
 refine Ws ?_
 refine zu1 ?_
 refine Wl ?_
 show W _ _ _ _ _ _ _
 refine bG (fun(k:Nat)=>[(0,sq af s),(1,i64 n),(5,.seq (dw s k).length ((dw s k).flatMap af) (.own 1 1)),(6,i64 k)]) (fun(k:Nat)=>[.dead]) (fun(k:Nat)=>[.free ((dw s k).length*1)]) (fun(k:Nat)=>k≤n) (fun(k:Nat)=>n-k) (0) (by omega) [0] ?_ ?_
 ·exact bu
 intro k hk
 refine Ws ?_
 refine zu3 ?_
 refine Wi rfl (fun hi1=>?_) (fun hi1=>?_)
 ·have hlt:k<n:=by have:=oT hi1;omega
  have e1:=dl k
  have e2:=dl (k+1)
  refine Wj ?_
  refine Ws ?_
  refine Wl ?_
  refine zu1 ?_
  refine Ws ?_
  refine zu4 ?_
  refine Wi rfl (fun hi2=>?_) (fun hi2=>?_)
  ·have h2:k<s.length:=by have:=oT hi2;omega
   refine aa rfl ?_
   refine zy2 ?_
   refine Wv tG rfl rfl rfl (by omega) (iN af 1 (fun _=>rfl) 0 (by omega)) ?_
   refine zs2 ?_
   refine aa rfl ?_
   refine zy3 ?_
   refine Wa 23 rfl (bsL af [_] rfl rfl) ?_
   refine Wd rfl rfl (aF (lO tG rfl) rfl (lO tG rfl) (lO tG rfl) rfl rfl rfl rfl (by simp) (by exact⟨_,rfl⟩) (by exact⟨rfl,rfl,ag _ 1 (fun _=>rfl) _,aB _ (fun _=>rfl) _⟩) (by(simp;omega)) (by(simp;omega))) ?_
   refine Wa 24 rfl (aM af) ?_
   refine z1 ?_
   skip
   refine Wn ?_
   refine aa rfl ?_
   refine zs3 ?_
   exact⟨k+1,[2],(by omega),(by omega),(bu (sub:=by repeat (first|exact bo|refine aX (by first|exact aH rfl|exact aH (Qt h2)|exact aH (congrArg i64 (by(rw[aK];unfold wrap64;omega)))) ?_)))⟩
  have h2:¬k<s.length:=by have:=oF hi2;omega
  refine Wj ?_
  refine aa rfl ?_
  refine zy3 ?_
  refine Wa 23 rfl (bsL af [_] rfl rfl) ?_
  refine Wd rfl rfl (aF (lO tG rfl) rfl (lO tG rfl) (lO tG rfl) rfl rfl rfl rfl (by simp) (by exact⟨_,rfl⟩) (by exact⟨rfl,rfl,ag _ 1 (fun _=>rfl) _,aB _ (fun _=>rfl) _⟩) (by(simp;omega)) (by(simp;omega))) ?_
  refine Wa 24 rfl (aM af) ?_
  refine z1 ?_
  skip
  refine Wn ?_
  refine aa rfl ?_
  refine zs3 ?_
  exact⟨k+1,[2],(by omega),(by omega),(bu (sub:=by repeat (first|exact bo|refine aX (by first|exact aH rfl|exact aH (OJ h2)|exact aH (congrArg i64 (by(rw[aK];unfold wrap64;omega)))) ?_)))⟩
 have hkn:k=n:=by have:=oF hi1;omega
 subst hkn
 refine aN ?_
 refine zu2 ?_
 refine Wq ?_
 exact IW rfl rfl rfl rfl (by exact Nat.le_refl _)
theorem AL(a b:Int):ab Tryz.prog 73 [i64 a,i64 b] (i64 (min a b)):=by
 refine pW tG (rs:=[.tmp 4]) Tryz.func73 rfl rfl rfl (by simp) (by simp) (fun B=>?_)
 refine zu1 ?_
 refine Ws ?_
 refine zu3 ?_
 refine Wi rfl (fun hi1=>?_) (fun hi1=>?_)
 ·have h0:a<b:=oT hi1
  refine zu2 ?_
  refine zR ?_
  exact congrArg i64 (by omega)
 have h0:¬a<b:=oF hi1
 refine Wj ?_
 refine zu2 ?_
 refine zR ?_
 exact congrArg i64 (by omega)
theorem ss(v:VVm)(xt fuel:Int):ab Tryz.prog 13 [eVm v,i64 xt,i64 fuel] (kO (eX v xt fuel)):=by
 refine pW tG (rs:=[.cell 6 38]) Tryz.func13 rfl rfl rfl (by simp) (by simp) (fun B=>?_)
 refine zu2 ?_
 refine zu2 ?_
 refine zu2 ?_
 refine zu5 ?_
 refine zR ?_
 rfl
def QL(r:bx×Int):PV:=dm (kO r.1) (i64 r.2)
@[simp] theorem QR (r : bx × Int) : aQ (QL r) := by simp [QL]
theorem B0(r:bx)(e:Int)(N:Nat)(g:dJ N r.vm):ab Tryz.prog 31 [kO r,i64 e] (QL (cq r e)):=by
 have R:=g.right
 have hc:=R.fU
 unfold dV at hc
 have hfl:=R.fl
 have hd:=R.d
 have hr:=R.r
 by_cases h0:r.vm.f.length=0
 ·have e1:cq r e=(r,e):=by unfold cq;rw[if_pos h0]
  rw[e1]
  refine pW tG (rs:=[.cell 4 38,.tmp 5]) Tryz.func31 rfl rfl rfl (by simp) (by simp) (fun B=>?_)
  refine zu3 ?_
  refine zu5 ?_
  refine Ws ?_
  refine zu2 ?_
  refine Wt rfl (by(try simp only[dnL]at *);omega) ?_
  refine zu4 ?_
  refine zR ?_
  rfl
 have hm:r.vm.f.getD (r.vm.f.length-1) default∈r.vm.f:=by rw[List.getD_eq_getElem?_getD,List.getElem?_eq_getElem (by omega)];exact List.getElem_mem _
 have hf:=List.all_eq_true.1 R.f _ hm
 unfold gv at hf
 simp only[decide_eq_true_eq,Bool.and_eq_true]at hf
 have e1:cq r e=({r with vm:={r.vm with f:=r.vm.f.take (r.vm.f.length-1),d:=dw r.vm.d (min (r.vm.f.getD (r.vm.f.length-1) default).d (r.vm.conf.data-1)).toNat++[e],r:=dw r.vm.r (min (r.vm.f.getD (r.vm.f.length-1) default).r r.vm.conf.ret).toNat},ip:=(r.vm.f.getD (r.vm.f.length-1) default).ip},0):=by
  unfold cq;rw[if_neg h0]
 rw[e1]
 have w0:IntKind.i64.wrap ((r.vm.f.length:Int)-1)=((r.vm.f.length-1:Nat):Int):=by((rw[aK];unfold wrap64;(try simp only[dnL]at *);omega))
 have w1:IntKind.i64.wrap (r.vm.conf.data-1)=r.vm.conf.data-1:=by((rw[aK];unfold wrap64;(try simp only[dnL]at *);omega))
 have w2:min (r.vm.f.getD (r.vm.f.length-1) default).d (r.vm.conf.data-1)=((min (r.vm.f.getD (r.vm.f.length-1) default).d (r.vm.conf.data-1)).toNat:Int):=by omega
 have w3:min (r.vm.f.getD (r.vm.f.length-1) default).r r.vm.conf.ret=((min (r.vm.f.getD (r.vm.f.length-1) default).r r.vm.conf.ret).toNat:Int):=by omega
 have hb:(min (r.vm.f.getD (r.vm.f.length-1) default).d (r.vm.conf.data-1)).toNat≤1000:=by omega
 have hdl:=js r.vm.d (min (r.vm.f.getD (r.vm.f.length-1) default).d (r.vm.conf.data-1)).toNat
 refine pW tG (rs:=[.cell 4 38,.tmp 5]) Tryz.func31 rfl rfl rfl (by simp) (by simp) (fun B=>?_)
 refine zu3 ?_
 refine zu5 ?_
 refine Ws ?_
 refine zu2 ?_
 refine Wf rfl (by(try simp only[dnL]at *);omega) ?_
 refine Wj ?_
 refine zp5 ?_
 refine Wa 20 rfl (congrArg (fun z=>PV.val (Value.int .i64 z)) w0) ?_
 refine Wv tG rfl rfl rfl (by omega) (iN bA 3 (fun _=>rfl) default (by omega)) ?_
 refine zs3 ?_
 refine zp1 ?_
 refine Wa 23 rfl (my) ?_
 refine zy5 ?_
 refine Wa 28 rfl (congrArg (fun z=>PV.val (Value.int .i64 z)) w0) ?_
 refine z2 ?_ (q:=(by clear e1 w2 w3 hdl hm hf;((simp_all;done))))
 refine Wa 29 rfl (bM bA 3 (fun _=>rfl) (by clear e1 w2 w3 hdl hm hf;omega)) ?_
 refine Wa 29 rfl (su) ?_
 refine Wd rfl rfl (aC (lO tG rfl) rfl (lO tG rfl) (lO tG rfl) rfl rfl (by exact⟨_,rfl⟩) (by exact⟨rfl,rfl,ag _ 3 (fun _=>rfl) _,aB _ (fun _=>rfl) _⟩) (by exact ag _ 3 (fun _=>rfl) _) (by(simp;omega)) (by(simp;omega))) ?_
 refine Wa 30 rfl (aM bA) ?_
 refine zs3 ?_
 refine Ws ?_
 refine V3.jp [0,0,4,0,8,0,0,0,4,0,0,2,0,0,13,0,0,3] [0,1,2,3,4,5,6,7,8,9,10,12,13,11,14,15,16,17] mG rfl (by kernel_rfl) ?_
 iterate 2 refine V3.gm ?_
 refine V3.cW 0 rfl rfl rfl rfl rfl (fun H2 h2=>ak (lO tG rfl) rfl rfl h2 rfl) ?_
 refine V3.gm ?_
 refine V3.cW 2 rfl rfl rfl rfl rfl (fun H2 h2=>ak (lO tG rfl) rfl rfl h2 rfl) ?_
 iterate 3 refine V3.gm ?_
 refine V3.cW 0 rfl rfl rfl rfl rfl (fun H2 h2=>ak (lO tG rfl) rfl rfl h2 rfl) ?_
 refine V3.gm ?_
 refine V3.gP 42 rfl (congrArg (fun z=>PV.val (Value.int .i64 z)) w1) ?_
 refine V3.u7 rfl rfl rfl rfl (fun _=>dC rfl Tryz.func73 rfl rfl ((AL _ _) _)) ?_
 refine V3.gP 43 rfl (congrArg i64 w2) ?_
 iterate 2 refine V3.gm ?_
 refine V3.gP 46 rfl (bsL af [_] rfl rfl) ?_
 refine V3.ud rfl rfl rfl rfl (dC rfl Tryz.func72 rfl rfl ((zI r.vm.d (min (r.vm.f.getD (r.vm.f.length-1) default).d (r.vm.conf.data-1)).toNat (by omega) (by omega)) _)) ?_
 refine V3.vp 4 rfl rfl rfl rfl (aF (lO tG rfl) rfl (lO tG rfl) (lO tG rfl) rfl rfl rfl rfl (by simp) (by exact⟨_,rfl⟩) (by exact⟨rfl,rfl,ag _ 1 (fun _=>rfl) _,aB _ (fun _=>rfl) _⟩) (by clear e1;((rw[hdl];simp only[List.length_singleton];omega))) (by clear e1;((rw[hdl];simp only[List.length_singleton];omega)))) ?_
 refine V3.gP 47 rfl (aM af) ?_
 iterate 2 refine V3.gm ?_
 refine V3.qo tG rfl rfl rfl rfl rfl trivial ?_
 refine V3.kE ?_
 refine Ws ?_
 refine V3.jp [0,0,4,0,8,0,0,0,4,0,2,0,0,3] [0,1,2,3,4,5,6,7,8,9,10,11,12,13] mG rfl (by kernel_rfl) ?_
 iterate 2 refine V3.gm ?_
 refine V3.cW 0 rfl rfl rfl rfl rfl (fun H2 h2=>ak (lO tG rfl) rfl rfl h2 rfl) ?_
 refine V3.gm ?_
 refine V3.cW 2 rfl rfl rfl rfl rfl (fun H2 h2=>ak (lO tG rfl) rfl rfl h2 rfl) ?_
 iterate 3 refine V3.gm ?_
 refine V3.cW 0 rfl rfl rfl rfl rfl (fun H2 h2=>ak (lO tG rfl) rfl rfl h2 rfl) ?_
 refine V3.u7 rfl rfl rfl rfl (fun _=>dC rfl Tryz.func73 rfl rfl ((AL _ _) _)) ?_
 refine V3.gP 59 rfl (congrArg i64 w3) ?_
 refine V3.ud rfl rfl rfl rfl (dC rfl Tryz.func72 rfl rfl ((zI r.vm.r (min (r.vm.f.getD (r.vm.f.length-1) default).r r.vm.conf.ret).toNat (by omega) (by omega)) _)) ?_
 iterate 2 refine V3.gm ?_
 refine V3.qo tG rfl rfl rfl rfl rfl trivial ?_
 refine V3.kE ?_
 refine zu4 ?_
 refine zu3 ?_
 refine zR ?_
 rfl
def rI:Nat→Nat→List Int
 | 0,_=>[]
 | k+1,u=>((u%256:Nat):Int)::rI k (u/256)
theorem zx(k:Nat):∀u:Nat,u<256 ^ k→jU (rI k u)=u:=by
 induction k with
 | zero=>intro u h;simp at h;simp[rI,jU,h]
 | succ k ih =>
  intro u h
  rw[Nat.pow_succ]at h
  simp only[rI,jU,ih (u/256) (by omega),Int.toNat_natCast]
  omega
theorem JS(u:Nat):fA u=rI 8 u:=by
 simp only[fA,rI,Nat.div_div_eq_div_mul]
 rfl
theorem zT(u:Nat)(h:u<18446744073709551616):jU (fA u)=u:=by
 rw[JS];exact zx 8 u (by rw[show(256:Nat) ^ 8=18446744073709551616 from by decide];exact h)
theorem Fq{n:Int}(h:ae n):y8 (mz n)=n:=by
 have e:(mz n).map (fun b=>(b.toNat:Int))=fA (U n):=by
  unfold mz
  rw[List.map_map]
  have:∀x∈fA (U n),((fun b:UInt8=>(b.toNat:Int)) ∘ fun x:Int=>UInt8.ofNat x.toNat) x=id x:=by
   intro x hx
   have:=IC (U n) x hx
   simp only[Function.comp,id]
   rw[UInt8.toNat_ofNat']
   omega
  rw[List.map_congr_left this,List.map_id]
 unfold y8
 rw[e,zT _ (lD n)]
 exact S_U n h
def stM(m:aV)(a n:Int):aV:=⟨dy m.b a.toNat (mz n),m.old++[⟨a,(m.b.drop a.toNat).take 8⟩]⟩
theorem Aj{m:aV}{a n:Int}(h0:0≤a)(h1:0<n)(h2:a+n≤m.b.length):ay m a n=true:=by
 unfold ay
 rw[decide_eq_true_eq]
 omega
theorem oE{m:aV}{a:Int}(h0:0≤a)(h1:a%8=0)(h2:a+8≤m.b.length):bE m a=0:=by
 unfold bE
 rw[Aj h0 (by omega) h2,if_pos rfl,if_pos (by rw[Int.tmod_eq_emod_of_nonneg h0];exact h1)]
theorem KT{m:aV}{a:Int}(n:Int)(h0:0≤a)(h2:a+8≤m.b.length):bK m a (mz n)=(stM m a n,0):=by
 unfold bK
 rw[hZ,if_pos (show ay m a ((8:Nat):Int)=true from Aj h0 (by omega) h2),if_neg (by intro h;have:=congrArg List.length h;rw[hZ]at this;cases this)]
 rfl
theorem IA{m:aV}{a:Int}(n:Int)(h0:0≤a)(h1:a%8=0)(h2:a+8≤m.b.length):aG m a n=(stM m a n,0):=by
 unfold aG
 rw[if_pos (oE h0 h1 h2),KT n h0 h2]
theorem tl{m:aV}{a n:Int}(h0:0≤a)(h2:a+8≤m.b.length):(stM m a n).b.length=m.b.length:=by
 unfold stM
 exact lU (by rw[hZ];omega)
theorem MZ{l x:List UInt8}{k:Nat}(h:k+x.length≤l.length):((dy l k x).drop k).take x.length=x:=by
 unfold dy
 rw[List.append_assoc,List.drop_left' (by rw[List.length_take];omega),List.take_left' rfl]
theorem BZ{l x:List UInt8}{k c n:Nat}(h:c+n≤k)(h2:k≤l.length):((dy l k x).drop c).take n=(l.drop c).take n:=by
 unfold dy
 rw[List.append_assoc,List.drop_append_of_le_length (by rw[List.length_take];omega),List.take_append_of_le_length (by rw[List.length_drop,List.length_take];omega),List.drop_take,List.take_take,Nat.min_eq_left (by omega)]
theorem CA{m:aV}{a n:Int}(hn:ae n)(h0:0≤a)(h1:a%8=0)(h2:a+8≤m.b.length):au (stM m a n) a=(n,0):=by
 unfold au
 rw[oE h0 h1 (by rw[tl h0 h2];exact h2),if_pos rfl]
 have e:((stM m a n).b.drop a.toNat).take 8=mz n:=MZ (x:=mz n) (by rw[hZ];omega)
 rw[e,Fq hn]
theorem Ag{m:aV}{a b n:Int}(h0:0≤b)(h1:b%8=0)(h3:b+8≤a)(h2:a+8≤m.b.length):au (stM m a n) b=au m b:=by
 unfold au
 rw[oE h0 h1 (by rw[tl (by omega) h2];omega),oE h0 h1 (by omega),if_pos rfl,if_pos rfl]
 have e:((stM m a n).b.drop b.toNat).take 8=(m.b.drop b.toNat).take 8:=BZ (by omega) (by omega)
 rw[e]
structure ni (m:aV) (L:Nat) (g:Int→Int):Prop where
 len:m.b.length=L
 cell:∀a:Int,0≤a→a%8=0→a+8≤(L:Int)→au m a=(g a,0)
def Au(g:Int→Int)(a n x:Int):Int:=if x=a then n else g x
theorem CT{l x:List UInt8}{k c n:Nat}(h:k+x.length≤c)(h2:k+x.length≤l.length):((dy l k x).drop c).take n=(l.drop c).take n:=by
 unfold dy
 have e:(l.take k++x).length=k+x.length:=by rw[List.length_append,List.length_take];omega
 rw[List.drop_append,List.drop_eq_nil_of_le (by rw[e];exact h),List.nil_append,e,List.drop_drop,show k+x.length+(c-(k+x.length))=c by omega]
theorem zW{m:aV}{a b n:Int}(h0:0≤a)(h1:b%8=0)(h3:a+8≤b)(h2:b+8≤m.b.length):au (stM m a n) b=au m b:=by
 unfold au
 rw[oE (by omega) h1 (by rw[tl (by omega) (by omega)];omega),oE (by omega) h1 (by omega),if_pos rfl,if_pos rfl]
 have e:((stM m a n).b.drop b.toNat).take 8=(m.b.drop b.toNat).take 8:=CT (by rw[hZ];omega) (by rw[hZ];omega)
 rw[e]
def okA(L:Nat)(a:Int):Bool:=decide (0≤a)&&decide (a%8=0)&&decide (a+8≤(L:Int))
theorem xJ{L:Nat}{a:Int}:okA L a=true↔0≤a∧a%8=0∧a+8≤(L:Int):=by unfold okA;simp only[Bool.and_eq_true,decide_eq_true_eq,and_assoc]
theorem ni.store{m:aV}{L:Nat}{g:Int→Int}(h:ni m L g){a n:Int}(hn:ae n)(ha:okA L a=true):ni (stM m a n) L (Au g a n):=by
 obtain⟨h0,h1,h2⟩:=xJ.1 ha
 have hl:=h.len
 refine⟨(tl h0 (by rw[hl];exact h2)).trans hl,fun x x0 x1 x2=>?_⟩
 unfold Au
 by_cases hx:x=a
 ·subst hx
  rw[if_pos rfl]
  exact CA hn h0 h1 (by rw[hl];exact h2)
 rw[if_neg hx,←h.cell x x0 x1 x2]
 by_cases hlt:x<a
 ·exact Ag x0 x1 (by omega) (by rw[hl];exact h2)
 exact zW h0 x1 (by omega) (by rw[hl];exact x2)
theorem ni.put{m:aV}{L:Nat}{g:Int→Int}(h:ni m L g){a n:Int}(ha:okA L a=true):aG m a n=(stM m a n,0):=by
 obtain⟨h0,h1,h2⟩:=xJ.1 ha
 exact IA n h0 h1 (by rw[h.len];exact h2)
def NK(g:Int→Int)(at_:Int)(cells:List Int):Nat→Int→Int
 | 0=>g
 | k+1=>Au (NK g at_ cells k) (at_+8+8*(k:Int)) (cells.getD k 0)
theorem ri{n:Int}(h0:0≤n)(h1:n≤1000000):W64 n=n:=Bm (by unfold ae;omega)
theorem Kj{l:List Int}(h:dU l)(k:Nat):ae (l.getD k 0):=by
 rw[List.getD_eq_getElem?_getD]
 cases e:l[k]? with
 | none=>exact bQ
 | some x=>exact h x (List.mem_of_getElem? e)
theorem ni.pc{m:aV}{L:Nat}{g:Int→Int}(h:ni m L g){at_:Int}{cells:List Int}(hc:dU cells)(h0:0≤at_)(h1:at_%8=0)(h2:at_+8+8*(cells.length:Int)≤(L:Int))(hL:L≤65536):
  ∀k,k≤cells.length→ni (pc m at_ cells k) L (NK g at_ cells k)
 | 0,_=>h
 | k+1,hk=>by
  have ih:=ni.pc h hc h0 h1 h2 hL k (by omega)
  have e:W64 (W64 (at_+8)+W64 (8*(k:Int)))=at_+8+8*(k:Int):=by
   rw[ri (n:=at_+8) (by omega) (by omega),ri (n:=8*(k:Int)) (by omega) (by omega),ri (by omega) (by omega)]
  have ha:okA L (at_+8+8*(k:Int))=true:=xJ.2 ⟨by omega,by omega,by omega⟩
  show ni (aG (Go.Proofs.YtiibjcnedbncjaaGreatDoor.pc m at_ cells k) (W64 (W64 (at_+8)+W64 (8*(k:Int)))) (cells.getD k 0)).1 L _
  rw[e,ih.put ha]
  exact ih.store (Kj hc k) ha
structure QE (v:VVm) (L:Nat) (g:Int→Int):Prop where
 mem:ni v.mem L g
 hL:L≤65536
 hl:1072≤L
 data:v.conf.data=32
 ret:v.conf.ret=32
theorem QE.store{v:VVm}{L:Nat}{g:Int→Int}(M:QE v L g){a n:Int}(hn:ae n)(ha:okA L a=true):QE (lf v (aG v.mem a n).1) L (Au g a n):=by
 refine⟨?_,M.hL,M.hl,M.data,M.ret⟩
 show ni (aG v.mem a n).1 L _
 rw[M.mem.put ha]
 exact M.mem.store hn ha
def g0(a:Int):Int:=(au (rm []).mem a).1
structure Std (g:Int→Int):Prop where
 prim:∀i:Nat,i<130→g (32+8*(i:Int))=(i:Int)
 c16:g 16=96
 c24:g 24=104
theorem Std.upd{g:Int→Int}(S:Std g){a n:Int}(h:1072≤a):Std (Au g a n):=by
 refine⟨fun i hi=>?_,?_,?_⟩
 ·unfold Au;rw[if_neg (by omega)];exact S.prim i hi
 ·unfold Au;rw[if_neg (by omega)];exact S.c16
 unfold Au;rw[if_neg (by omega)];exact S.c24
def mk(v:VVm)(d r:List Int)(f:List dE):VVm:={v with d:=d,r:=r,f:=f}
variable {v : VVm} {L : Nat} {g : Int → Int} {d r : List Int} {f : List dE} {ip fu xt q x n : Int}
def Je(ahead:bx)(fu:Int)(k:VWk):bx×Bool×Int :=
 if k.bad=0 then(⟨k.v,k.ip,k.w,k.dof,fu⟩,k.over,0)else((cq ahead k.bad).1,false,(cq ahead k.bad).2)
def TL(r:bx)(q:VWk×Int):bx×Bool×Int:=Je ⟨r.vm,q.1.ip,0,false,W64 (r.fuel-1)⟩ (W64 (r.fuel-1)) (if q.1.bad=0 then nk q.1 q.2 else q.1)
def ea(r:bx):VWk×Int :=
 let k0:VWk:=⟨r.vm,r.ip,0,false,false,0⟩
 if r.dof then(k0,r.w)else(let a:=az k0 r.ip;(if a.1.bad=0 then fW a.1 else a.1,a.2))
theorem zC{r:bx}(h:¬r.fuel<1):bV r=TL r (ea r):=by unfold bV;rw[if_neg h];rfl
def Go1(s t:bx):Prop:=bV s=(t,false,0)
inductive GoN:Nat→bx→bx→Prop
 | nil (s:bx):GoN 0 s s
 | cons {n:Nat} {s t u:bx}:Go1 s t→GoN n t u→GoN (n+1) s u
theorem GoN.trans{a b:Nat}{s t u:bx}(h:GoN a s t)(k:GoN b t u):GoN (b+a) s u:=by
 induction h with
 | nil s=>exact k
 | cons h1 _ ih=>exact .cons h1 (ih k)
theorem GoN.one{s t:bx}(h:Go1 s t):GoN 1 s t:=.cons h (.nil _)
theorem GoN.run{n:Nat}{s t:bx}(h:GoN n s t):∀k,qB (k+n) s=qB k t:=by
 induction h with
 | nil s=>intro k;rfl
 | cons h1 _ ih =>
  intro k
  unfold Go1 at h1
  rw[←Nat.add_assoc,Ea (by rw[h1];simp),h1]
  exact ih k
section
variable {d' r' : List Int} {f' : List dE} {v' : VVm} {ip' w : Int}
end
section
variable {d' r' : List Int} {f' : List dE} {v' : VVm} {ip' w : Int}
end
open Go.RowKit
def k0R(r:bx):VWk:=⟨r.vm,r.ip,0,false,false,0⟩
theorem rA{r:bx}(q:r.dof=true):ea r=(k0R r,r.w):=by unfold ea;dsimp only;rw[if_pos q];rfl
theorem uh{r:bx}(q:¬r.dof=true)(q2:(az (k0R r) r.ip).1.bad=0):ea r=(fW (az (k0R r) r.ip).1,(az (k0R r) r.ip).2):=by
 unfold ea;dsimp only;rw[if_neg q,if_pos (show(az (⟨r.vm,r.ip,0,false,false,0⟩:VWk) r.ip).1.bad=0 from q2)];rfl
theorem uX{r:bx}(q:¬r.dof=true)(q2:¬(az (k0R r) r.ip).1.bad=0):ea r=((az (k0R r) r.ip).1,(az (k0R r) r.ip).2):=by
 unfold ea;dsimp only;rw[if_neg q,if_neg (show ¬(az (⟨r.vm,r.ip,0,false,false,0⟩:VWk) r.ip).1.bad=0 from q2)];rfl
def g9(r:bx):VWk:=if (ea r).1.bad=0 then nk (ea r).1 (ea r).2 else(ea r).1
theorem Na{r:bx}(q:(ea r).1.bad=0):g9 r=nk (ea r).1 (ea r).2:=by unfold g9;rw[if_pos q]
theorem ME{r:bx}(q:¬(ea r).1.bad=0):g9 r=(ea r).1:=by unfold g9;rw[if_neg q]
def ahR(r:bx):bx:=⟨r.vm,(ea r).1.ip,0,false,W64 (r.fuel-1)⟩
theorem LH{r:bx}(h:¬r.fuel<1)(q:(g9 r).bad=0):bV r=(⟨(g9 r).v,(g9 r).ip,(g9 r).w,(g9 r).dof,W64 (r.fuel-1)⟩,(g9 r).over,0):=by
 rw[zC h];show Je (ahR r) (W64 (r.fuel-1)) (g9 r)=_;unfold Je;rw[if_pos q]
theorem MW{r:bx}(h:¬r.fuel<1)(q:¬(g9 r).bad=0):bV r=((cq (ahR r) (g9 r).bad).1,false,(cq (ahR r) (g9 r).bad).2):=by
 rw[zC h];show Je (ahR r) (W64 (r.fuel-1)) (g9 r)=_;unfold Je;rw[if_neg q]
theorem Nw{r:bx}{N:Nat}(g:gq N r):KD N (ea r).1∧ae (ea r).2:=by
 have b:KD N (k0R r):=⟨g.m.x,g.ip,bQ⟩
 have f:=ic b r.ip
 by_cases q:r.dof=true
 ·rw[rA q];exact⟨b,g.w⟩
 by_cases q2:(az (k0R r) r.ip).1.bad=0
 ·rw[uh q q2];exact⟨qr f.1,f.2⟩
 rw[uX q q2];exact f
theorem JR(r:bx):(ea r).1.v=r.vm:=by
 by_cases q:r.dof=true
 ·rw[rA q];rfl
 by_cases q2:(az (k0R r) r.ip).1.bad=0
 ·rw[uh q q2];exact yH (k0R r) (au (k0R r).v.mem r.ip).2
 rw[uX q q2];exact yH (k0R r) (au (k0R r).v.mem r.ip).2
theorem tP(r:bx)(N:Nat)(g:gq N r)(hN:N≤700000)(hfu:ae r.fuel):ab Tryz.prog 9 [kO r] (AW (bV r)):=by
 have kb:KD N (k0R r):=⟨g.m.x,g.ip,bQ⟩
 have kt:=Nw g
 have hvo:bX (ea r).1.v:=by rw[JR];exact DN g.m.v (by omega)
 have hcm:ae (ea r).1.v.conf.mem:=by
  rw[JR];have:=g.m.right.fU;unfold dV at this;unfold ae;omega
 have ga:dJ N (ahR r).vm:=g.m
 refine pW tG (rs:=[.cell 2 38,.tmp 3,.tmp 4]) Tryz.func9 rfl rfl rfl (by simp) (by simp) (fun B=>?_)
 refine zu4 ?_
 refine Ws ?_
 refine zu3 ?_
 refine Wi rfl (fun hi1=>?_) (fun hi1=>?_)
 ·have q1:r.fuel<1:=oT hi1
  refine zu4 ?_
  refine zR ?_
  rw[wo q1];rfl
 have q1:¬r.fuel<1:=oF hi1
 refine Wj ?_
 refine zp5 ?_
 refine zs2 ?_
 refine zu3 ?_
 refine nt [(1,.ptr 0 0),(2,.ptr 1 0),(5,.ptr 2 0),(6,i64 (ea r).2)] [.cells (iz r) 38,.cells o0 38,.cells (cWk (ea r).1) 80] [] ?_ ?_
 ·refine zu3 ?_
  refine Wi rfl (fun hi2=>?_) (fun hi2=>?_)
  ·have q2:¬r.dof=true:=by simpa using hi2
   refine zp2 ?_
   refine zc rfl Tryz.func29 ((iW (k0R r) kb r.ip g.ip) _ _ rfl) ?_
   refine zs1 ?_
   refine zu3 ?_
   refine Wi rfl (fun hi3=>?_) (fun hi3=>?_)
   ·have q3:(az (k0R r) r.ip).1.bad=0:=(show(az (k0R r) r.ip).1.bad=0 by simpa using hi3)
    have hT:=uh q2 q3
    refine aa rfl ?_
    refine zy4 ?_
    refine co (zs:=cWk (ea r).1) (lO tG rfl) rfl rfl rfl rfl rfl rfl rfl (by rw[hT];rfl) rfl rfl rfl ?_
    refine Wn ?_
    exact⟨[],(bu (sub:=by repeat (first|exact bo|refine aX (by first|exact aH rfl|exact aH (congrArg i64 (by rw[hT]))) ?_)) (len:=show(3:Nat)=3 from rfl))⟩
   have q3:¬(az (k0R r) r.ip).1.bad=0:=(show ¬(az (k0R r) r.ip).1.bad=0 by simpa using hi3)
   have hT:=uX q2 q3
   refine Gm (H':=[.cells (iz r) 38,.cells o0 38,.cells (cWk (ea r).1) 80]) (by rw[hT];rfl) ?_
   refine Wj ?_
   exact⟨[],(bu (sub:=by repeat (first|exact bo|refine aX (by first|exact aH rfl|exact aH (congrArg i64 (by rw[hT]))) ?_)) (len:=show(3:Nat)=3 from rfl))⟩
  have q2:r.dof=true:=by simpa using hi2
  have hT:=rA q2
  refine Gm (H':=[.cells (iz r) 38,.cells o0 38,.cells (cWk (ea r).1) 80]) (by rw[hT];rfl) ?_
  refine Wj ?_
  exact⟨[],(bu (sub:=by repeat (first|exact bo|refine aX (by first|exact aH rfl|exact aH (congrArg i64 (by rw[hT]))) ?_)) (len:=show(3:Nat)=3 from rfl))⟩
 refine zp5 ?_
 refine zs5 ?_
 refine nt [(1,.ptr 0 0),(2,.ptr 1 0),(5,.ptr 2 0),(7,.ptr 3 0)] [.cells (iz r) 38,.cells o0 38,.cells (cWk (g9 r)) 80,.cells (iz (ahR r)) 38] [] ?_ ?_
 ·refine zu3 ?_
  refine Wi rfl (fun hi4=>?_) (fun hi4=>?_)
  ·have q4:(ea r).1.bad=0:=by simpa using hi4
   refine aa rfl ?_
   refine z1 ?_
   refine zc rfl Tryz.func30 ((PN (ea r).1 kt.1 (by omega) hvo hcm (ea r).2 kt.2) _ _ rfl) ?_
   refine lA (H':=[.cells (iz r) 38,.cells o0 38,.cells (cWk (g9 r)) 80,.cells (iz (ahR r)) 38]) (by rw[Na q4];rfl) ?_
   refine Wn ?_
   exact⟨[],(bu (len:=show(4:Nat)=4 from rfl))⟩
  have q4:¬(ea r).1.bad=0:=by simpa using hi4
  refine Gm (H':=[.cells (iz r) 38,.cells o0 38,.cells (cWk (g9 r)) 80,.cells (iz (ahR r)) 38]) (by rw[ME q4];rfl) ?_
  refine Wj ?_
  exact⟨[],(bu (len:=show(4:Nat)=4 from rfl))⟩
 refine Ws ?_
 refine zu3 ?_
 refine Wi rfl (fun hi5=>?_) (fun hi5=>?_)
 ·have q5:(g9 r).bad=0:=by simpa using hi5
  refine Ws ?_
  refine V3.jp [0,8,0,8,0,8,0,8,0,4,0,0,0,8,7,0,0] [0,1,2,3,4,5,6,7,8,9,10,11,12,13,14,15,16] mG rfl (by kernel_rfl) ?_
  refine V3.gm ?_
  refine V3.cW 2 rfl rfl rfl rfl rfl (fun H2 h2=>ak (lO tG rfl) rfl rfl h2 rfl) ?_
  refine V3.gm ?_
  refine V3.cW 2 rfl rfl rfl rfl rfl (fun H2 h2=>ak (lO tG rfl) rfl rfl h2 rfl) ?_
  refine V3.gm ?_
  refine V3.cW 2 rfl rfl rfl rfl rfl (fun H2 h2=>ak (lO tG rfl) rfl rfl h2 rfl) ?_
  refine V3.gm ?_
  refine V3.cW 2 rfl rfl rfl rfl rfl (fun H2 h2=>ak (lO tG rfl) rfl rfl h2 rfl) ?_
  refine V3.gm ?_
  refine V3.cW 0 rfl rfl rfl rfl rfl (fun H2 h2=>ak (lO tG rfl) rfl rfl h2 rfl) ?_
  iterate 3 refine V3.gm ?_
  refine V3.cW 2 rfl rfl rfl rfl rfl (fun H2 h2=>ak (lO tG rfl) rfl rfl h2 rfl) ?_
  refine V3.ya 1 tG rfl rfl rfl rfl rfl trivial rfl ?_
  iterate 2 refine V3.gm ?_
  refine V3.kE ?_
  refine zR ?_
  (rw[LH q1 q5];rfl)
 have q5:¬(g9 r).bad=0:=by simpa using hi5
 refine Wj ?_
 refine zp3 ?_
 refine zc rfl Tryz.func31 ((B0 (ahR r) (g9 r).bad N ga) _) ?_
 refine zy5 ?_
 refine zs1 ?_
 refine zu5 ?_
 refine zR ?_
 (rw[MW q1 q5];rfl)
theorem GU(v:VVm)(xt fuel:Int)(N:Nat)(g:dJ N v)(hx:ae xt)(hf:fuel≤300000)(hN:N≤90000):ab Tryz.prog 16 [eVm v,i64 xt,i64 fuel] (DK (nI v xt fuel)):=by
 obtain⟨R,hR⟩:∃R,nI v xt fuel=R:=⟨_,rfl⟩
 have h0:ra R ((max fuel 0).toNat.succ,eX v xt (max fuel 0)) :=
  ⟨hR,by show(0:Int)≤max fuel 0;omega,by show max fuel 0<(((max fuel 0).toNat+1:Nat):Int);omega,(m4 g hx).up (by show N≤700000-2*((max fuel 0).toNat+1);omega),by show(max fuel 0).toNat+1≤300001;omega⟩
 rw[hR]
 clear hR
 refine pW tG (rs:=[.cell 6 36,.tmp 7,.tmp 8]) Tryz.func16 rfl rfl rfl (by simp) (by simp) (fun B=>?_)
 refine zu4 ?_
 refine nt [(1,i64 xt),(2,i64 (max fuel 0)),(3,.ptr 0 0),(6,.ptr 1 0)] [.cells (cVm v) 36,.cells zVm 36] [] ?_ ?_
 ·refine zu2 ?_
  refine Wi rfl (fun hi1=>?_) (fun hi1=>?_)
  ·have q0:fuel<0:=oT hi1
   refine aa rfl ?_
   refine zs1 ?_
   exact⟨[],(bu (sub:=by repeat (first|exact bo|refine aX (by first|exact aH rfl|exact aH (congrArg i64 (by omega))) ?_)) (len:=show(2:Nat)=2 from rfl))⟩
  have q0:¬fuel<0:=oF hi1
  refine Wj ?_
  exact⟨[],(bu (sub:=by repeat (first|exact bo|refine aX (by first|exact aH rfl|exact aH (congrArg i64 (by omega))) ?_)) (len:=show(2:Nat)=2 from rfl))⟩
 refine zp3 ?_
 refine zc rfl Tryz.func13 ((ss v xt (max fuel 0)) _) ?_
 refine zs2 ?_
 refine Wl ?_
 show W _ _ _ _ _ _ _
 refine bG (fun(s:(Nat×bx))=>[(3,.ptr 0 0),(6,.ptr 1 0),(9,.ptr 2 0)]) (fun(s:(Nat×bx))=>[.cells (cVm v) 36,.cells zVm 36,.cells (iz s.2) 38]) (fun(s:(Nat×bx))=>[]) (fun(s:(Nat×bx))=>ra R s) (fun(s:(Nat×bx))=>s.1) (((max fuel 0).toNat.succ,eX v xt (max fuel 0))) (by exact h0) [] ?_ ?_
 ·exact bu
 intro s hs
 refine Wl ?_
 refine zp1 ?_
 refine zc rfl Tryz.func9 ((tP s.2 (700000-2*s.1) hs.g (by omega) hs.fit) _) ?_
 refine zy5 ?_
 refine zs3 ?_
 refine Ws ?_
 refine zp2 ?_
 refine Wb 27 rfl (fun hg1=>?_) (fun hg1=>?_)
 ·have q1:(bV s.2).2.1=true:=hg1
  iterate 2 refine z6 ?_
  refine zs1 ?_
  refine Wt rfl rfl ?_
  refine zu4 ?_
  refine zu2 ?_
  refine zu2 ?_
  refine Ws ?_
  refine V3.jp [12,0,10,0,7,0,0] [0,1,2,3,4,5,6] mG rfl (by kernel_rfl) ?_
  refine V3.cW 4 rfl rfl rfl rfl rfl (fun H2 h2=>ak (lO tG rfl) rfl rfl h2 rfl) ?_
  refine V3.gm ?_
  refine V3.cW 3 rfl rfl rfl rfl rfl (fun H2 h2=>ak (lO tG rfl) rfl rfl h2 rfl) ?_
  refine V3.gm ?_
  refine V3.ya 1 tG rfl rfl rfl rfl rfl trivial rfl ?_
  iterate 2 refine V3.gm ?_
  refine V3.kE ?_
  refine zR ?_
  rw[←hs.out (.inl q1)];rfl
 have q1:¬(bV s.2).2.1=true:=by simpa using hg1
 refine zs3 ?_
 refine Wi rfl (fun hi2=>?_) (fun hi2=>?_)
 ·have q2:(bV s.2).2.2≠0:=by simpa using hi2
  refine zu4 ?_
  refine zu2 ?_
  refine zu2 ?_
  refine Ws ?_
  refine V3.jp [12,0,10,0,7,0,0] [0,1,2,3,4,5,6] mG rfl (by kernel_rfl) ?_
  refine V3.cW 4 rfl rfl rfl rfl rfl (fun H2 h2=>ak (lO tG rfl) rfl rfl h2 rfl) ?_
  refine V3.gm ?_
  refine V3.cW 3 rfl rfl rfl rfl rfl (fun H2 h2=>ak (lO tG rfl) rfl rfl h2 rfl) ?_
  refine V3.gm ?_
  refine V3.ya 1 tG rfl rfl rfl rfl rfl trivial rfl ?_
  iterate 2 refine V3.gm ?_
  refine V3.kE ?_
  refine zR ?_
  rw[←hs.out (.inr q2)];rfl
 have q2:¬((bV s.2).2.1=true∨(bV s.2).2.2≠0):=fun q=>q.elim q1 (by simpa using hi2)
 refine Wj ?_
 refine aa rfl ?_
 refine zs2 ?_
 exact⟨(s.1-1,(bV s.2).1),[],(by exact(hs.next q2).1),(by exact(hs.next q2).2),bu⟩
theorem Ah{d:List Int}(hd:d.length≤32)(hf:dU d):dJ 0 (rm d) :=
 ⟨zn hd,Nat.le_refl _,hf,bz,fun x hx=>(by cases hx),⟨bQ,bQ,bQ⟩,bQ⟩
theorem Gg{N:Nat}{v:VVm}(g:dJ N v){m:aV}(hl:m.b.length=v.mem.b.length):dJ 0 (lf v ⟨m.b,[]⟩):=by
 have R:=g.right
 have h1:=R.mem
 refine⟨⟨R.fU,?_,R.dict,R.pic,?_,R.here0,R.here1,R.f,R.hand,R.d,R.r,R.fl,R.dl,R.out,R.req,R.free0,R.free1,R.next0,R.next1,R.handl⟩,Nat.le_refl _,g.fd,g.fr,g.ff,g.ints,g.la⟩
 ·unfold fv at h1 ⊢
  simp only[Bool.and_eq_true,decide_eq_true_eq]at h1 ⊢
  obtain⟨_,q1,q2⟩:=h1
  refine⟨rfl,?_,?_⟩
  ·show m.b.length≤65536;omega
  show m.b.length%8=0;omega
 show(m.b.length:Int)=v.conf.mem;rw[hl];exact R.len
theorem FN{N:Nat}{v:VVm}(g:dJ N v)(at_:Int)(cells:List Int):dJ 0 (KS v at_ cells):=by
 have q:=(nU (aG v.mem at_ 256).1 at_ cells cells.length).1
 rw[(cN v.mem at_ 256).len]at q
 exact Gg g q
theorem mw{N:Nat}{v:VVm}(g:dJ N v)(h:N≤1000000):VSm v:=IZ g.right (by have:=g.old;omega)
def exV:VVm:=KS (rm []) 1368 [xtS [40,108,105,116,41],5,xtS [68,85,80],xtS [42],xtS [40,101,120,105,116,41]]
theorem Mg:dJ 0 exV:=FN (Ah (by decide) bz) _ _
theorem qQ:ae 1368:=by unfold ae;omega
theorem Sr:∃u:VVm,nI exV 1368 10=(u,4,0)∧u.d=[25]:=⟨(nI exV 1368 10).1,Prod.ext rfl (by kernel_rfl),by kernel_rfl⟩
theorem TB:∃u:VVm,nI exV 1368 5=(u,0,-256)∧u.d=[25]:=⟨(nI exV 1368 5).1,Prod.ext rfl (by kernel_rfl),by kernel_rfl⟩
theorem L0:∃s:bx,bV (eX exV 1368 3)=(s,false,0)∧s.ip=1376∧s.fuel=2:=⟨(bV (eX exV 1368 3)).1,Prod.ext rfl (by kernel_rfl),by kernel_rfl,by kernel_rfl⟩
theorem ux(a:Addr):∀(H:List Ob),(∀o∈iC a,∃k:Nat,H[k]?=some o)→HC Tryz.prog 5 [] H (boo true) H:=by
 obtain⟨u1,hu1,hd1⟩:=Sr
 obtain⟨u2,hu2,hd2⟩:=TB
 obtain⟨s,hs,hs1,hs2⟩:=L0
 have g0:=Mg
 have gb:gq 0 (eX exV 1368 3):=m4 g0 qQ
 have gs:=mn gb
 rw[hs]at gs
 have p1:=rc a exV 1368 10 0 g0 qQ (by decide) (by decide)
 have p2:=rc a exV 1368 5 0 g0 qQ (by decide) (by decide)
 have p3:=oh a (eX exV 1368 3) 0 gb (by decide) (by unfold ae eX;dsimp only;omega)
 rw[hu1]at p1
 rw[hu2]at p2
 rw[hs]at p3
 have p4:=pq (eX exV 1368 3) (eX exV 1368 3) (mw gb.m (by decide)) (mw gb.m (by decide))
 have p5:=pq (eX exV 1368 3) s (mw gb.m (by decide)) (mw gs.m (by decide))
 have hne:¬eX exV 1368 3=s:=fun h=>by
  have:=congrArg bx.ip h
  rw[hs1]at this
  exact absurd this (by show ¬(16:Int)=1376;decide)
 have l1:u1.d.length≤1000000:=by rw[hd1];decide
 have l2:u2.d.length≤1000000:=by rw[hd2];decide
 clear hs gs
 refine iO (i9 a) tG (rs:=[.tmp 0]) Tryz.func5 rfl rfl rfl (by simp) (by simp) (fun B=>?_)
 refine zu1 ?_
 refine z8 ?_
 refine zc rfl Tryz.func18 ((FV) _) ?_
 refine zs2 ?_
 refine Ws ?_
 refine ai [1,0,0,0,0,0,0,3] [0,1,2,3,4,5,6,7] mG rfl (by kernel_rfl) ?_
 refine z5 ?_
 refine Xc rfl rfl rfl rfl (fun _=>dC rfl Tryz.func20 rfl rfl ((xx _) _)) ?_
 refine Xc rfl rfl rfl rfl (fun _=>dC rfl Tryz.func20 rfl rfl ((xx _) _)) ?_
 refine Xc rfl rfl rfl rfl (fun _=>dC rfl Tryz.func20 rfl rfl ((xx _) _)) ?_
 refine Xc rfl rfl rfl rfl (fun _=>dC rfl Tryz.func20 rfl rfl ((xx _) _)) ?_
 refine z3 ?_
 refine Xa 18 rfl (bsL af [_,_,_,_,_] rfl rfl) ?_
 refine Xc rfl rfl rfl rfl (fun _=>dC rfl Tryz.func19 rfl rfl ((If (rm []) 1368 [xtS [40,108,105,116,41],5,xtS [68,85,80],xtS [42],xtS [40,101,120,105,116,41]] (oT (by kernel_rfl)) (oT (by kernel_rfl)) qQ (oT (by kernel_rfl))) _)) ?_
 refine aZ tG rfl rfl rfl rfl rfl trivial ?_
 refine ah ?_
 refine zp1 ?_
 refine zc rfl Tryz.func15 (p1 _ (hO 0 1 rfl rfl)) ?_
 refine zy5 ?_
 refine zs3 ?_
 refine zp1 ?_
 refine zc rfl Tryz.func15 (p2 _ (hO 0 1 rfl rfl)) ?_
 refine zy5 ?_
 refine zs3 ?_
 refine zp1 ?_
 refine zc rfl Tryz.func12 ((nY exV 1368 3) _) ?_
 refine zs2 ?_
 refine zp1 ?_
 refine zc rfl Tryz.func8 (p3 _ (hO 0 1 rfl rfl)) ?_
 refine zy5 ?_
 refine zs3 ?_
 refine zp3 ?_
 refine cX 42 rfl (by rfl) ?_
 refine zy3 ?_
 refine Wa 45 rfl (bsL af [_] rfl rfl) ?_
 refine zc rfl Tryz.func21 ((oD u1.d [25] l1 (by decide)) _) ?_
 refine zy2 ?_
 refine cX 48 rfl (by exact decide_eq_true hd1) ?_
 refine zy4 ?_
 refine cX 52 rfl (by rfl) ?_
 refine zy4 ?_
 refine cX 56 rfl (by rfl) ?_
 refine zy4 ?_
 refine cX 60 rfl (by rfl) ?_
 refine zy3 ?_
 refine Wa 63 rfl (bsL af [_] rfl rfl) ?_
 refine zc rfl Tryz.func21 ((oD u2.d [25] l2 (by decide)) _) ?_
 refine zy2 ?_
 refine cX 66 rfl (by exact decide_eq_true hd2) ?_
 refine zy4 ?_
 refine cX 70 rfl (by rfl) ?_
 refine zy4 ?_
 refine cX 74 rfl (by rfl) ?_
 refine zy5 ?_
 refine cX 79 rfl (by rw[hs1];rfl) ?_
 refine zy5 ?_
 refine cX 84 rfl (by rw[hs2];rfl) ?_
 refine zy2 ?_
 refine zc rfl Tryz.func11 ((p4) _) ?_
 refine zy2 ?_
 refine cX 89 rfl (by exact decide_eq_true rfl) ?_
 refine zy2 ?_
 refine zc rfl Tryz.func11 ((p5) _) ?_
 refine zs3 ?_
 refine zR ?_
 exact congrArg boo (by rw[decide_eq_false hne];rfl)
open Go.WideShapes
theorem va{P:Program}{a:Addr}{f:FuncId}{args:List PV}{vs:List Value}{w:World}(hf:aL args)(h:∀(H:List Ob),(∀o∈iC a,∃k:Nat,H[k]?=some o)→HC P f args H (.val (.bool true)) H)
  (h0:w.cell? ⟨0,0,none⟩=some (haltV a)) (h1:w.cell? ⟨1,0,none⟩=some etV) (hr:an (c0 w) args vs) :
  Calls P f vs.toArray w fun e w'=>e=.returned (.bool true)∧Below w.heap.size w w':=by
 have dull:∀{j:Nat} {oj:Ob},(iC a)[j]?=some oj→oj.live=true→False:=fun q1 q2=>by
  obtain⟨g,u,rfl⟩:=i9 a _ (List.mem_of_getElem? q1);cases q2
 have nw:∀b off,¬(False∨iE (fun _=>none) (iC a) b off):=by
  rintro b off (q|⟨i,oi,q1,_,q3⟩)
  ·exact q
  obtain⟨g,u,rfl⟩:=i9 a _ (List.mem_of_getElem? q1);cases q3
 have s:Sim (fun _ _=>False) (iC a) (fun _=>none) w:=by
  refine⟨fun i j b oi oj q _ l=>(dull q l).elim,fun i b oi q l=>(dull q l).elim,fun b off q=>q.elim,fun i oi q=>?_⟩
  have hm:=List.mem_of_getElem? q
  unfold iC at hm
  simp only[List.mem_cons,List.not_mem_nil,or_false]at hm
  rcases hm with rfl|rfl
  ·exact⟨h0,nw _ _⟩
  exact⟨h1,nw _ _⟩
 have hr':an (cx (fun _ _=>False) (iC a) (fun _=>none) w) args vs:=dj (c:=c0 w) (c':=cx (fun _ _=>False) (iC a) (fun _=>none) w) rfl (fun b off q=>(nw b off q).elim) hf hr
 refine Calls.mono (h (iC a) (fun o ho=>by obtain⟨k,hk⟩:=List.getElem?_of_mem ho;exact⟨k,hk⟩) (fun _ _=>False) (fun _=>none) w vs s hr') ?_
 rintro e w' ⟨v,σ',rfl,h1,_,h3⟩
 unfold Rep at h1
 subst h1
 exact⟨rfl,⟨h3.os,h3.tape,h3.output,h3.size,fun b hb=>h3.block b hb (fun i oi hi hl=>(dull hi hl).elim)⟩⟩
structure Ep (r:bx):Prop where
 vm:B3 r.vm
 ip:ae r.ip
 w:ae r.w
 fuel:ae r.fuel
theorem KL{w:World}{cs:List Value}(h:Rd w 38 cs):∃x:bx,Ep x∧an (c0 w) (iz x) cs:=by
 have h0:=kM Tryz.underlying38 [(36,23),(3,1),(3,1),(4,1),(3,1)] (by kernel_rfl) (by kernel_rfl) (by kernel_rfl) h
 simp only[kV]at h0
 obtain⟨a0,b0,e0,_,r0,t0⟩:=h0
 obtain⟨a1,b1,e1,_,r1,t1⟩:=t0
 obtain⟨a2,b2,e2,_,r2,t2⟩:=t1
 obtain⟨a3,b3,e3,_,r3,t3⟩:=t2
 obtain⟨a4,b4,e4,_,r4,t4⟩:=t3
 obtain⟨x0,k0,p0⟩:=Oa r0
 obtain⟨x1,k1,p1⟩:=bD r1
 obtain⟨x2,k2,p2⟩:=bD r2
 obtain⟨x3,k3,p3⟩:=Be r3
 obtain⟨x4,k4,p4⟩:=bD r4
 refine⟨⟨x0,x1,x2,x3,x4⟩,⟨k0,k1,k2,k4⟩,?_⟩
 subst e0 e1 e2 e3 e4
 have key:=an.append p0 (an.append p1 (an.append p2 (an.append p3 (an.append p4 (ax.2 t4)))))
 exact key
theorem xe{v:VVm}(hv:B3 v)(h:nn v=true):dJ 60 v:=by
 have g:=Ja hv h
 exact⟨(iJ v).1 g.right,g.old,hv.o_d.1,hv.o_r.1,fun x hx=>(hv.o_f.1 x hx).o_ip,⟨hv.o_arg,hv.o_self,hv.o_now⟩,hv.o_last⟩
theorem GI{r:bx}(h:Ep r)(hm:nn r.vm=true):gq 60 r:=⟨xe h.vm hm,h.ip,h.w⟩
theorem ph(a b:bx)(ha:VSm a.vm)(hb:VSm b.vm):ab Tryz.prog 10 [kO a,kO b] (boo (decide (a=b))):=by
 rw[DD]
 refine pW tG (rs:=[.tmp 4]) Tryz.func10 rfl rfl rfl (by simp) (by simp) (fun B=>?_)
 refine zu3 ?_
 refine zp4 ?_
 refine zc rfl Tryz.func17 ((uf a.vm b.vm ha hb) _) ?_
 refine zs1 ?_
 refine zp2 ?_
 refine Wb 12 rfl (fun hg1=>?_) (fun hg1=>?_)
 ·refine zy5 ?_
  refine zy2 ?_
  refine Wb 19 rfl (fun hg2=>?_) (fun hg2=>?_)
  ·refine zy5 ?_
   refine zy2 ?_
   refine Wb 26 rfl (fun hg3=>?_) (fun hg3=>?_)
   ·refine zy5 ?_
    refine zy2 ?_
    refine Wb 33 rfl (fun hg4=>?_) (fun hg4=>?_)
    ·refine zy5 ?_
     refine zs2 ?_
     refine zR ?_
     exact congrArg boo (by simp_all<;>rfl)
    refine z6 ?_
    iterate 4 refine z6 ?_
    refine zs2 ?_
    refine zR ?_
    exact congrArg boo (by simp_all<;>rfl)
   refine z6 ?_
   iterate 4 refine z6 ?_
   refine zy2 ?_
   iterate 5 refine z6 ?_
   refine zs2 ?_
   refine zR ?_
   exact congrArg boo (by simp_all<;>rfl)
  refine z6 ?_
  iterate 4 refine z6 ?_
  refine zy2 ?_
  iterate 5 refine z6 ?_
  refine zy2 ?_
  iterate 5 refine z6 ?_
  refine zs2 ?_
  refine zR ?_
  exact congrArg boo (by simp_all<;>rfl)
 refine z6 ?_
 iterate 4 refine z6 ?_
 refine zy2 ?_
 iterate 5 refine z6 ?_
 refine zy2 ?_
 iterate 5 refine z6 ?_
 refine zy2 ?_
 iterate 5 refine z6 ?_
 refine zs2 ?_
 refine zR ?_
 exact congrArg boo (by simp_all<;>rfl)
theorem Fu(r:bx)(h:MC r.vm):ab Tryz.prog 6 [kO r] (boo (nn r.vm)):=by
 refine pW tG (rs:=[.tmp 2]) Tryz.func6 rfl rfl rfl (by simp) (by simp) (fun B=>?_)
 refine zu2 ?_
 refine zp2 ?_
 refine zc rfl Tryz.func14 ((xk r.vm h) _) ?_
 refine zs1 ?_
 refine zR ?_
 rfl
open Go.WideShapes
theorem O1{v:VVm}(h:VSm v):VSm (Fr v):=⟨h.old,h.d,Nat.zero_le _,Nat.zero_le _,h.dict,h.req,h.hand⟩
open Go.WideShapes
theorem QJ{R:VVm×Int×Int}:∀(n:Nat) (s:Nat×bx),s.1=n→ra R s→VSm R.1:=by
 intro n
 induction n using Nat.strongRecOn with
 | _ n ih =>
  intro s hs h
  by_cases k:(bV s.2).2.1=true∨(bV s.2).2.2≠0
  ·rw[←congrArg (fun p=>p.1) (h.out k)]
   exact O1 (mw (mn h.g).m (by omega))
  exact ih (s.1-1) (by have:=(h.next k).2;omega) _ rfl (h.next k).1
theorem LG{v:VVm}{xt fuel:Int}{N:Nat}(g:dJ N v)(hx:ae xt)(hf:fuel≤300000)(hN:N≤90000):VSm (nI v xt fuel).1 :=
 QJ (R:=nI v xt fuel) _ ((max fuel 0).toNat.succ,eX v xt (max fuel 0)) rfl
  ⟨rfl,by show(0:Int)≤max fuel 0;omega,by show max fuel 0<(((max fuel 0).toNat+1:Nat):Int);omega,(m4 g hx).up (by show N≤700000-2*((max fuel 0).toNat+1);omega),by show(max fuel 0).toNat+1≤300001;omega⟩
theorem vD(a:Addr)(v:VVm)(hv:B3 v)(xt fuel:Int)(hx:ae xt)(hf:ae fuel):∀(H:List Ob),(∀o∈iC a,∃k:Nat,H[k]?=some o)→HC Tryz.prog 4 [eVm v,i64 xt,i64 fuel] H (boo true) H:=by
 obtain⟨bm,hbm⟩:∃b,nn v=b:=⟨_,rfl⟩
 have pm:=xk v (xD hv)
 rw[hbm]at pm
 refine iO (i9 a) tG (rs:=[.tmp 6]) Tryz.func4 rfl rfl rfl (by simp) (by simp) (fun B=>?_)
 refine zu2 ?_
 refine z8 ?_
 refine zc rfl Tryz.func5 (ux a _ (hO 0 1 rfl rfl)) ?_
 refine zs1 ?_
 refine Ws ?_
 refine zp1 ?_
 refine zc rfl Tryz.func14 ((pm) _) ?_
 refine zy2 ?_
 refine Wb 18 rfl (fun hg1=>?_) (fun hg1=>?_)
 ·refine z6 ?_
  refine z6 ?_
  refine zs1 ?_
  refine Wt rfl rfl ?_
  refine zu2 ?_
  refine zR ?_
  rfl
 have hm:nn v=true:=by rw[hbm];simpa using hg1
 refine zs3 ?_
 refine Wi rfl (fun hi1=>?_) (fun hi1=>?_)
 ·refine zu2 ?_
  refine zR ?_
  rfl
 have hF:fuel≤500:=by have:=oF hi1;omega
 have g0:=xe hv hm
 have p3:=rc a v xt fuel 60 g0 hx (by omega) (by omega)
 have p4:=GU v xt fuel 60 g0 hx (by omega) (by omega)
 have hsm:=LG g0 hx (show fuel≤300000 by omega) (by omega)
 generalize nI v xt fuel=R at p3 p4 hsm
 have pS:ab Tryz.prog 17 [eVm R.1,eVm R.1] (boo true):=by have h:=uf R.1 R.1 hsm hsm;rw[decide_eq_true rfl]at h;exact h
 refine Wj ?_
 refine zp3 ?_
 refine zc rfl Tryz.func15 (p3 _ (hO 0 1 rfl rfl)) ?_
 refine zy5 ?_
 refine zs3 ?_
 refine zp3 ?_
 refine zc rfl Tryz.func16 ((p4) _) ?_
 refine zy5 ?_
 refine zs3 ?_
 refine zp2 ?_
 refine cX 40 rfl (by rfl) ?_
 refine zy2 ?_
 refine zc rfl Tryz.func17 ((pS) _) ?_
 refine zy2 ?_
 refine cX 45 rfl (by rfl) ?_
 refine zy5 ?_
 refine cX 50 rfl (by simp) ?_
 refine zs5 ?_
 refine zR ?_
 exact congrArg boo (by simp)
theorem walk_InnerRuns(a:Addr)(v0 v1 v2:Value)(w:World)(h0:w.cell? ⟨0,0,none⟩=some (haltV a))(h1:w.cell? ⟨1,0,none⟩=some etV)(r0:pa w 36 v0)(r1:pa w 3 v1)(r2:pa w 3 v2):
  Calls Tryz.prog 4 #[v0,v1,v2] w fun e w'=>e=.returned (.bool true)∧Below w.heap.size w w':=by
 obtain⟨x,hx,p0⟩:=G8 r0
 obtain⟨n,hn,p1⟩:=wY r1
 obtain⟨k,hk,p2⟩:=wY r2
 exact va (args:=[eVm x,i64 n,i64 k]) (by simp[aL,aQ]) (vD a x hx n k hn hk) h0 h1 (am.2 ⟨p0,am.2 ⟨p1,am.2 ⟨p2,ax.2 rfl⟩⟩⟩)
open Go.WideShapes
structure jK where
 r:bx
 o:bx
 xt:Int
 fuel:Int
 deriving Inhabited
def qm(x:jK):List PV:=iz x.r++(iz x.o++[i64 x.xt,i64 x.fuel])
@[simp] theorem vC (x : jK) : aL (qm x) := by simp [qm, iz, cVm]
def nu(x:jK):PV:=.agg (qm x)
@[simp] theorem Lp (x : jK) : aQ (nu x) := by unfold nu aQ; exact vC x
structure rh (x:jK):Prop where
 r:Ep x.r
 o:Ep x.o
 xt:ae x.xt
 fuel:ae x.fuel
theorem Cc{w:World}{cs:List Value}(h:Rd w 40 cs):∃x:jK,rh x∧an (c0 w) (qm x) cs:=by
 have h0:=kM Tryz.underlying40 [(38,27),(38,27),(3,1),(3,1)] (by kernel_rfl) (by kernel_rfl) (by kernel_rfl) h
 simp only[kV]at h0
 obtain⟨a0,b0,e0,_,r0,t0⟩:=h0
 obtain⟨a1,b1,e1,_,r1,t1⟩:=t0
 obtain⟨a2,b2,e2,_,r2,t2⟩:=t1
 obtain⟨a3,b3,e3,_,r3,t3⟩:=t2
 obtain⟨x0,k0,p0⟩:=KL r0
 obtain⟨x1,k1,p1⟩:=KL r1
 obtain⟨x2,k2,p2⟩:=bD r2
 obtain⟨x3,k3,p3⟩:=bD r3
 refine⟨⟨x0,x1,x2,x3⟩,⟨k0,k1,k2,k3⟩,?_⟩
 subst e0 e1 e2 e3
 have key:=an.append p0 (an.append p1 (an.append p2 (an.append p3 (ax.2 t3))))
 exact key
theorem vz{w:World}{v:Value}(h:pa w 40 v):∃x:jK,rh x∧Rep (c0 w) (nu x) v:=by
 obtain⟨cs,h1,h2⟩:=qP Tryz.underlying40 h
 obtain⟨x,h3,h4⟩:=Cc h2.2
 exact⟨x,h3,xi (t:=40) ⟨cs,h1,h4⟩⟩
theorem Qf{v:VVm}(h:kB v=true):VSm v:=by
 unfold kB zY FS at h
 simp only[Bool.and_eq_true,decide_eq_true_eq]at h
 obtain⟨⟨⟨_,h2⟩,_⟩,⟨h3,_⟩,h4,h5,h6,_,_,h7,h8⟩:=h
 exact⟨by omega,by omega,by omega,by omega,by omega,by omega,by omega⟩
theorem uS(a:Addr)(x:jK)(hx:rh x):∀(H:List Ob),(∀o∈iC a,∃k:Nat,H[k]?=some o)→HC Tryz.prog 3 [nu x] H (boo true) H:=by
 obtain⟨r,o,xt,fu⟩:=x
 obtain⟨hr,ho,hxt,hfu⟩:=hx
 simp only at hr ho hxt hfu
 obtain⟨bm,hbm⟩:∃b,nn r.vm=b:=⟨_,rfl⟩
 obtain⟨bf,hbf⟩:∃b,kB o.vm=b:=⟨_,rfl⟩
 obtain⟨bs,hbs⟩:∃b,decide (r=o)=b:=⟨_,rfl⟩
 have pm:=Fu r (xD hr.vm)
 have pf:=wu o.vm (xD ho.vm).toVIn
 rw[hbm]at pm
 rw[hbf]at pf
 refine iO (i9 a) tG (rs:=[.tmp 2]) Tryz.func3 rfl rfl rfl (by simp) (by simp) (fun B=>?_)
 refine zu2 ?_
 refine zu4 ?_
 refine zu4 ?_
 refine zu3 ?_
 refine zu3 ?_
 refine z8 ?_
 refine zc rfl Tryz.func5 (ux a _ (hO 0 1 rfl rfl)) ?_
 refine zs1 ?_
 refine Ws ?_
 refine zp1 ?_
 refine zc rfl Tryz.func6 ((pm) _) ?_
 refine zy2 ?_
 refine Wb 26 rfl (fun hg1=>?_) (fun hg1=>?_)
 ·refine z6 ?_
  iterate 3 refine z6 ?_
  refine zs1 ?_
  refine Wt rfl rfl ?_
  refine zu2 ?_
  refine zR ?_
  rfl
 refine zy2 ?_
 refine zc rfl Tryz.func7 ((pf) _) ?_
 refine zs2 ?_
 refine Wi rfl (fun hi1=>?_) (fun hi1=>?_)
 ·refine zu2 ?_
  refine zR ?_
  rfl
 have hm:nn r.vm=true:=by rw[hbm];simpa using hg1
 have g0:=GI hr hm
 have so:VSm o.vm:=Qf (by rw[hbf];simpa using hi1)
 have sr:VSm r.vm:=mw g0.m (by omega)
 have p4:=oh a r 60 g0 (by omega) hr.fuel
 have p5:=tP r 60 g0 (by omega) hr.fuel
 have s1:VSm (bV r).1.vm:=mw (mn g0).m (by omega)
 generalize bV r=R at p4 p5 s1
 have p6:ab Tryz.prog 10 [kO R.1,kO R.1] (boo true):=by have h:=ph R.1 R.1 s1 s1;rw[decide_eq_true rfl]at h;exact h
 have p7:=pq r o sr so
 have p8:=ph r o sr so
 rw[hbs]at p7 p8
 have sb:VSm (eX r.vm xt fu).vm:=⟨sr.old,sr.d,Nat.zero_le _,Nat.zero_le _,sr.dict,sr.req,sr.hand⟩
 have p11:ab Tryz.prog 10 [kO (eX r.vm xt fu),kO (eX r.vm xt fu)] (boo true):=by have h:=ph _ _ sb sb;rw[decide_eq_true rfl]at h;exact h
 refine Wj ?_
 refine zp1 ?_
 refine zc rfl Tryz.func8 (p4 _ (hO 0 1 rfl rfl)) ?_
 refine zy5 ?_
 refine zs3 ?_
 refine zp1 ?_
 refine zc rfl Tryz.func9 ((p5) _) ?_
 refine zy5 ?_
 refine zs3 ?_
 refine Ws ?_
 refine ai [0,0,1,1,0,0,0,0,0,0,0,0,0,0,0,0,0,1,1,0,1,1,0,0,0,0,0,1,0,0,0,0,1,0,0,0,0,0,0] [0,1,2,3,4,5,6,7,8,9,10,11,12,13,14,15,16,17,18,19,20,21,22,23,24,25,26,27,28,29,30,31,32,33,34,35,36,37,38] mG rfl (by kernel_rfl) ?_
 iterate 2 refine z3 ?_
 refine bZ 46 rfl (fun hg2=>?_) (fun hg2=>?_)
 ·refine z5 ?_
  refine z5 ?_
  refine Xc rfl rfl rfl rfl (fun _=>dC rfl Tryz.func10 rfl rfl ((p6) _)) ?_
  iterate 2 refine z3 ?_
  refine bZ 51 rfl (fun hg3=>?_) (fun hg3=>?_)
  ·refine z3 ?_
   iterate 4 refine z3 ?_
   refine bZ 56 rfl (fun hg4=>?_) (fun hg4=>?_)
   ·refine z3 ?_
    iterate 4 refine z3 ?_
    refine bZ 61 rfl (fun hg5=>?_) (fun hg5=>?_)
    ·refine z5 ?_
     refine z5 ?_
     refine Xc rfl rfl rfl rfl (fun _=>dC rfl Tryz.func11 rfl rfl ((p7) _)) ?_
     iterate 2 refine z5 ?_
     refine Xc rfl rfl rfl rfl (fun _=>dC rfl Tryz.func10 rfl rfl ((p8) _)) ?_
     iterate 3 refine z3 ?_
     refine bZ 70 rfl (fun hg6=>?_) (fun hg6=>?_)
     ·refine z3 ?_
      refine z5 ?_
      iterate 2 refine z3 ?_
      refine Xc rfl rfl rfl rfl (fun _=>dC rfl Tryz.func12 rfl rfl ((nY r.vm xt fu) _)) ?_
      refine z3 ?_
      refine z5 ?_
      iterate 2 refine z3 ?_
      refine Xc rfl rfl rfl rfl (fun _=>dC rfl Tryz.func13 rfl rfl ((ss r.vm xt fu) _)) ?_
      refine Xc rfl rfl rfl rfl (fun _=>dC rfl Tryz.func10 rfl rfl ((p11) _)) ?_
      iterate 2 refine z3 ?_
      refine ah ?_
      refine zR ?_
      rfl
     refine z7 ?_
     iterate 10 refine z7 ?_
     iterate 2 refine z3 ?_
     refine ah ?_
     refine zR ?_
     exact congrArg boo (by simp_all)
    refine z7 ?_
    iterate 6 refine z7 ?_
    iterate 2 refine z3 ?_
    iterate 11 refine z7 ?_
    iterate 2 refine z3 ?_
    refine ah ?_
    refine zR ?_
    exact congrArg boo (by simp_all)
   refine z7 ?_
   iterate 2 refine z7 ?_
   iterate 2 refine z3 ?_
   iterate 7 refine z7 ?_
   iterate 2 refine z3 ?_
   iterate 11 refine z7 ?_
   iterate 2 refine z3 ?_
   refine ah ?_
   refine zR ?_
   exact congrArg boo (by simp_all)
  refine z7 ?_
  iterate 2 refine z7 ?_
  iterate 2 refine z3 ?_
  iterate 3 refine z7 ?_
  iterate 2 refine z3 ?_
  iterate 7 refine z7 ?_
  iterate 2 refine z3 ?_
  iterate 11 refine z7 ?_
  iterate 2 refine z3 ?_
  refine ah ?_
  refine zR ?_
  exact congrArg boo (by simp_all)
 refine z7 ?_
 iterate 2 refine z7 ?_
 iterate 2 refine z3 ?_
 iterate 3 refine z7 ?_
 iterate 2 refine z3 ?_
 iterate 3 refine z7 ?_
 iterate 2 refine z3 ?_
 iterate 7 refine z7 ?_
 iterate 2 refine z3 ?_
 iterate 11 refine z7 ?_
 iterate 2 refine z3 ?_
 refine ah ?_
 refine zR ?_
 exact congrArg boo (by simp_all)
theorem walk_InnerSteps(a:Addr)(v0:Value)(w:World)(h0:w.cell? ⟨0,0,none⟩=some (haltV a))(h1:w.cell? ⟨1,0,none⟩=some etV)(hv:pa w 40 v0):
  Calls Tryz.prog 3 #[v0] w fun e w'=>e=.returned (.bool true)∧Below w.heap.size w w':=by
 obtain⟨x,hx,hr⟩:=vz hv
 exact va (args:=[nu x]) (by simp[aL]) (uS a x hx) h0 h1 (am.2 ⟨hr,ax.2 rfl⟩)
end Go.Proofs.YtiibjcnedbncjaaGreatDoor
