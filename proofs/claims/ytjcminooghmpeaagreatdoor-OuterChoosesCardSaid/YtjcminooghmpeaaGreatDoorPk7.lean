import Derived.Test.YtjcminooghmpeaaGreatDoorPk6
set_option linter.all false
set_option maxRecDepth 100000
set_option maxHeartbeats 40000000
open Go.Proofs.Tryz
namespace Go.Proofs.YtjcminooghmpeaaGreatDoor
open Go.RowKit
def rkK:List ga:=[.s [47,77,79,68],.s [42,47,77,79,68],.s [42,47],.s [85,77,42],.s [77,42],.s [85,77,47,77,79,68],.s [83,77,47,82,69,77],.s [70,77,47,77,79,68],.s [83,62,68],.s [87,73,84,72,73,78]]
def rkV:List PV:=[bp 2 271 [.row [fnP 280 pw]],bp 3 271 [.row [fnP 281 Gs]],bp 3 271 [.row [fnP 282 Sl]],bp 2 271 [.row [fnP 283 []]],bp 2 271 [.row [fnP 285 []]],bp 3 271 [.row [fnP 286 pw]],bp 3 271 [.row [fnP 288 pw]],bp 3 271 [.row [fnP 290 pw]],bp 1 271 [.row [fnP 291 []]],bp 3 271 [.row [fnP 293 []]]]
def XL:aU (.smap rkK rkV):=by
 unfold aU rkV
 simp
def jx:ab prog 246 [] (.smap rkK rkV):=by
 refine bz tG (rs:=[.tmp 0]) func246 rfl rfl rfl (by simp;done) (by exact XL) (fun B=>?_)
 refine zu1 ?_
 refine zp2 ?_
 refine bR 1 _ rfl rfl rfl ?_
 refine Wn<|zp2 ?_
 refine bR 2 _ rfl rfl rfl ?_
 refine z0 ?_
 refine Wd rfl rfl (du rfl) ?_
 refine z1 ?_
 refine zc rfl func240 ((jJ 2 280 pw (by simp)) _) ?_
 refine zD 267 (.s [47,77,79,68]) ?_
 refine z1 ?_
 refine zc rfl func240 ((jJ 3 281 Gs (by simp)) _) ?_
 refine zD 267 (.s [42,47,77,79,68]) ?_
 refine z1 ?_
 refine zc rfl func240 ((jJ 3 282 Sl (by simp)) _) ?_
 refine zD 267 (.s [42,47]) ?_
 refine zc rfl func240 ((jJ 2 283 [] (by simp)) _) ?_
 refine zD 267 (.s [85,77,42]) ?_
 refine zc rfl func240 ((jJ 2 285 [] (by simp)) _) ?_
 refine zD 267 (.s [77,42]) ?_
 refine z1 ?_
 refine zc rfl func240 ((jJ 3 286 pw (by simp)) _) ?_
 refine zD 267 (.s [85,77,47,77,79,68]) ?_
 refine z1 ?_
 refine zc rfl func240 ((jJ 3 288 pw (by simp)) _) ?_
 refine zD 267 (.s [83,77,47,82,69,77]) ?_
 refine z1 ?_
 refine zc rfl func240 ((jJ 3 290 pw (by simp)) _) ?_
 refine zD 267 (.s [70,77,47,77,79,68]) ?_
 refine zc rfl func240 ((jJ 1 291 [] (by simp)) _) ?_
 refine zD 267 (.s [83,62,68]) ?_
 refine zc rfl func240 ((jJ 3 293 [] (by simp)) _) ?_
 refine zD 267 (.s [87,73,84,72,73,78]) ?_
 refine z1 ?_
 refine eZ 20 _ rfl rfl rfl ?_
 refine zs1 ?_
 refine zR ?_
 rfl
def meK:List ga:=[.s [64],.s [67,64],.s [33],.s [67,33],.s [43,33],.s [50,64],.s [50,33],.s [70,73,76,76],.s [77,79,86,69],.s [67,79,85,78,84]]
def meV:List PV:=[bp 1 367 [.row [fnP 39 []]],bp 1 367 [.row [fnP 296 []]],bp 2 368 [.row [fnP 298 []]],bp 2 368 [.row [fnP 299 []]],bp 2 368 [.row [fnP 301 []]],bp 1 302 [],bp 3 368 [.row [fnP 303 []]],bp 3 368 [.row [fnP 304 []]],bp 3 368 [.row [fnP 306 []]],bp 1 308 []]
def W8:aU (.smap meK meV):=by
 unfold aU meV
 simp
def iU:ab prog 247 [] (.smap meK meV):=by
 refine bz tG (rs:=[.tmp 0]) func247 rfl rfl rfl (by simp;done) (by exact W8) (fun B=>?_)
 refine zu1 ?_
 refine z8 ?_
 refine Wd rfl rfl (du rfl) ?_
 refine zc rfl func295 ((vt 39 [] (by simp)) _) ?_
 refine zD 267 (.s [64]) ?_
 refine zc rfl func295 ((vt 296 [] (by simp)) _) ?_
 refine zD 267 (.s [67,64]) ?_
 refine zc rfl func297 ((lL 2 298 [] (by simp)) _) ?_
 refine zD 267 (.s [33]) ?_
 refine zc rfl func297 ((lL 2 299 [] (by simp)) _) ?_
 refine zD 267 (.s [67,33]) ?_
 refine zc rfl func297 ((lL 2 301 [] (by simp)) _) ?_
 refine zD 267 (.s [43,33]) ?_
 refine z1 ?_
 refine zD 267 (.s [50,64]) ?_
 refine zc rfl func297 ((lL 3 303 [] (by simp)) _) ?_
 refine zD 267 (.s [50,33]) ?_
 refine zc rfl func297 ((lL 3 304 [] (by simp)) _) ?_
 refine zD 267 (.s [70,73,76,76]) ?_
 refine zc rfl func297 ((lL 3 306 [] (by simp)) _) ?_
 refine zD 267 (.s [77,79,86,69]) ?_
 refine z1 ?_
 refine zD 267 (.s [67,79,85,78,84]) ?_
 refine z1 ?_
 refine eZ 12 _ rfl rfl rfl ?_
 refine zs1 ?_
 refine zR ?_
 rfl
def spK:List ga:=[.s [72,69,82,69],.s [65,76,76,79,84],.s [44],.s [67,44],.s [65,76,73,71,78],.s [66,65,83,69],.s [83,84,65,84,69],.s [84,82,85,69],.s [70,65,76,83,69],.s [66,76],.s [68,69,67,73,77,65,76],.s [72,69,88]]
def spV:List PV:=[bp 0 370 [.row [fnP 315 []]],bp 1 371 [.row [fnP 317 []]],bp 1 371 [.row [fnP 319 []]],bp 1 371 [.row [fnP 320 []]],bp 0 371 [.row [fnP 321 []]],bp 0 370 [.row [fnP 314 [.row [i64 (0)]]]],bp 0 370 [.row [fnP 314 [.row [i64 (8)]]]],bp 0 370 [.row [fnP 314 [.row [i64 (-1)]]]],bp 0 370 [.row [fnP 314 [.row [i64 (0)]]]],bp 0 370 [.row [fnP 314 [.row [i64 (32)]]]],bp 0 310 [.row [i64 10]],bp 0 310 [.row [i64 16]]]
def XQ:aU (.smap spK spV):=by
 unfold aU spV
 simp
def ky:ab prog 248 [] (.smap spK spV):=by
 refine bz tG (rs:=[.tmp 0]) func248 rfl rfl rfl (by simp;done) (by exact XQ) (fun B=>?_)
 refine zu1 ?_
 refine zu1 ?_
 refine zu1 ?_
 refine z8 ?_
 refine Wd rfl rfl (du rfl) ?_
 refine zc rfl func313 ((sY 315 [] (by simp)) _) ?_
 refine zD 267 (.s [72,69,82,69]) ?_
 refine zc rfl func316 ((yW 1 317 [] (by simp)) _) ?_
 refine zD 267 (.s [65,76,76,79,84]) ?_
 refine zc rfl func316 ((yW 1 319 [] (by simp)) _) ?_
 refine zD 267 (.s [44]) ?_
 refine zc rfl func316 ((yW 1 320 [] (by simp)) _) ?_
 refine zD 267 (.s [67,44]) ?_
 refine zc rfl func316 ((yW 0 321 [] (by simp)) _) ?_
 refine zD 267 (.s [65,76,73,71,78]) ?_
 refine z1 ?_
 refine Wc rfl rfl (ei rfl rfl func312 rfl rfl (pr (0) _)) ?_
 refine zD 267 (.s [66,65,83,69]) ?_
 refine z1 ?_
 refine Wc rfl rfl (ei rfl rfl func312 rfl rfl (pr (8) _)) ?_
 refine zD 267 (.s [83,84,65,84,69]) ?_
 refine z1 ?_
 refine Wc rfl rfl (ei rfl rfl func312 rfl rfl (pr (-1) _)) ?_
 refine zD 267 (.s [84,82,85,69]) ?_
 refine z1 ?_
 refine Wc rfl rfl (ei rfl rfl func312 rfl rfl (pr (0) _)) ?_
 refine zD 267 (.s [70,65,76,83,69]) ?_
 refine z1 ?_
 refine Wc rfl rfl (ei rfl rfl func312 rfl rfl (pr (32) _)) ?_
 refine zD 267 (.s [66,76]) ?_
 refine z1 ?_
 refine Wc rfl rfl (ei rfl rfl func309 rfl rfl (LM 10 _)) ?_
 refine zD 267 (.s [68,69,67,73,77,65,76]) ?_
 refine z1 ?_
 refine Wc rfl rfl (ei rfl rfl func309 rfl rfl (LM 16 _)) ?_
 refine zD 267 (.s [72,69,88]) ?_
 refine z1 ?_
 refine eZ 23 _ rfl rfl rfl ?_
 refine zs1 ?_
 refine zR ?_
 rfl
def prK:List ga:=[.s [69,77,73,84],.s [67,82],.s [83,80,65,67,69],.s [83,80,65,67,69,83],.s [84,89,80,69],.s [46],.s [85,46]]
def prV:List PV:=[bp 1 372 [.row [fnP 328 []]],bp 0 372 [.row [fnP 327 [.row [str [10]]]]],bp 0 372 [.row [fnP 327 [.row [str [32]]]]],bp 1 372 [.row [fnP 329 []]],bp 2 372 [.row [fnP 331 []]],bp 1 372 [.row [fnP 324 [.row [fnP 332 []]]]],bp 1 372 [.row [fnP 324 [.row [fnP 333 []]]]]]
def Xb:aU (.smap prK prV):=by
 unfold aU prV
 simp
def ku:ab prog 249 [] (.smap prK prV):=by
 refine bz tG (rs:=[.tmp 0]) func249 rfl rfl rfl (by simp;done) (by exact Xb) (fun B=>?_)
 refine zu1 ?_
 refine zu1 ?_
 refine zu1 ?_
 refine z8 ?_
 refine Wd rfl rfl (du rfl) ?_
 refine zc rfl func323 ((wu 1 328 [] (by simp)) _) ?_
 refine zD 267 (.s [69,77,73,84]) ?_
 refine z1 ?_
 refine Wc rfl rfl (ei rfl rfl func326 rfl rfl (Mz [10] _)) ?_
 refine zD 267 (.s [67,82]) ?_
 refine z1 ?_
 refine Wc rfl rfl (ei rfl rfl func326 rfl rfl (Mz [32] _)) ?_
 refine zD 267 (.s [83,80,65,67,69]) ?_
 refine zc rfl func323 ((wu 1 329 [] (by simp)) _) ?_
 refine zD 267 (.s [83,80,65,67,69,83]) ?_
 refine zc rfl func323 ((wu 2 331 [] (by simp)) _) ?_
 refine zD 267 (.s [84,89,80,69]) ?_
 refine z1 ?_
 refine Wc rfl rfl (ei rfl rfl func322 rfl rfl (DG 332 [] (by simp) _)) ?_
 refine zD 267 (.s [46]) ?_
 refine z1 ?_
 refine Wc rfl rfl (ei rfl rfl func322 rfl rfl (DG 333 [] (by simp) _)) ?_
 refine zD 267 (.s [85,46]) ?_
 refine z1 ?_
 refine eZ 15 _ rfl rfl rfl ?_
 refine zs1 ?_
 refine zR ?_
 rfl
def piK:List ga:=[.s [60,35],.s [35],.s [35,83],.s [72,79,76,68],.s [83,73,71,78],.s [35,62]]
def piV:List PV:=[bp 0 336 [],bp 2 338 [],bp 2 340 [],bp 1 335 [.row [fnP 342 []]],bp 1 335 [.row [fnP 343 []]],bp 2 344 []]
def W6:aU (.smap piK piV):=by
 unfold aU piV
 simp
def nL:ab prog 250 [] (.smap piK piV):=by
 refine bz tG (rs:=[.tmp 0]) func250 rfl rfl rfl (by simp;done) (by exact W6) (fun B=>?_)
 refine zu1 ?_
 refine zu1 ?_
 refine z8 ?_
 refine Wd rfl rfl (du rfl) ?_
 refine z1 ?_
 refine zD 267 (.s [60,35]) ?_
 refine z1 ?_
 refine zD 267 (.s [35]) ?_
 refine z1 ?_
 refine zD 267 (.s [35,83]) ?_
 refine z1 ?_
 refine Wc rfl rfl (ei rfl rfl func334 rfl rfl (So 342 [] (by simp) _)) ?_
 refine zD 267 (.s [72,79,76,68]) ?_
 refine z1 ?_
 refine Wc rfl rfl (ei rfl rfl func334 rfl rfl (So 343 [] (by simp) _)) ?_
 refine zD 267 (.s [83,73,71,78]) ?_
 refine z1 ?_
 refine zD 267 (.s [35,62]) ?_
 refine z1 ?_
 refine eZ 11 _ rfl rfl rfl ?_
 refine zs1 ?_
 refine zR ?_
 rfl
def otK:List ga:=[.s [62,66,79,68,89],.s [65,66,79,82,84],.s [80,79,83,84],.s [65,70,84,69,82],.s [69,86,69,82,89],.s [67,65,78,67,69,76],.s [65,82,71],.s [83,69,76,70],.s [78,79,87],.s [83,69,84,45,83,84,65,84,69],.s [65,84,45,83,84,65,84,69],.s [71,69,84,45,83,84,65,84,69]]
def otV:List PV:=[bp 1 346 [],bp 0 271 [.row [fnP 347 []]],bp 3 383 [.row [i64 1],.row [i64 3]],bp 4 383 [.row [i64 2],.row [i64 4]],bp 4 383 [.row [i64 3],.row [i64 4]],bp 1 383 [.row [i64 4],.row [i64 1]],bp 0 370 [.row [fnP 349 []]],bp 0 370 [.row [fnP 350 []]],bp 0 370 [.row [fnP 351 []]],bp 2 352 [],bp 3 354 [],bp 1 367 [.row [fnP 39 []]]]
def VA:aU (.smap otK otV):=by
 unfold aU otV
 simp
def Ir:ab prog 251 [] (.smap otK otV):=by
 refine bz tG (rs:=[.tmp 0]) func251 rfl rfl rfl (by simp;done) (by exact VA) (fun B=>?_)
 refine zu1 ?_
 refine z8 ?_
 refine Wd rfl rfl (du rfl) ?_
 refine z1 ?_
 refine zD 267 (.s [62,66,79,68,89]) ?_
 refine zc rfl func240 ((jJ 0 347 [] (by simp)) _) ?_
 refine zD 267 (.s [65,66,79,82,84]) ?_
 refine zc rfl func348 ((QP) _) ?_
 refine zD 267 (.s [80,79,83,84]) ?_
 refine zc rfl func348 ((Qd) _) ?_
 refine zD 267 (.s [65,70,84,69,82]) ?_
 refine zc rfl func348 ((PA) _) ?_
 refine zD 267 (.s [69,86,69,82,89]) ?_
 refine zc rfl func348 ((PI) _) ?_
 refine zD 267 (.s [67,65,78,67,69,76]) ?_
 refine zc rfl func313 ((sY 349 [] (by simp)) _) ?_
 refine zD 267 (.s [65,82,71]) ?_
 refine zc rfl func313 ((sY 350 [] (by simp)) _) ?_
 refine zD 267 (.s [83,69,76,70]) ?_
 refine zc rfl func313 ((sY 351 [] (by simp)) _) ?_
 refine zD 267 (.s [78,79,87]) ?_
 refine z1 ?_
 refine zD 267 (.s [83,69,84,45,83,84,65,84,69]) ?_
 refine z1 ?_
 refine zD 267 (.s [65,84,45,83,84,65,84,69]) ?_
 refine zc rfl func295 ((vt 39 [] (by simp)) _) ?_
 refine zD 267 (.s [71,69,84,45,83,84,65,84,69]) ?_
 refine z1 ?_
 refine eZ 14 _ rfl rfl rfl ?_
 refine zs1 ?_
 refine zR ?_
 rfl
abbrev fa:PV:=.agg [i64 0,.val .nilFunc]
def jX(n:Int)(name:Str)(k:Int)(f:FuncId)(cap:List PV)(hn:72<n)(hc:aw cap)(h0:ia rkK rkV (.s name) fa=(bp k f cap,true)):ab prog 200 [i64 n,str name] (bp k f cap):=by
 refine bz tG (rs:=[.cell 4 267]) func200 rfl rfl rfl (by simp[hc]) (by simp[hc]) (fun B=>?_)
 refine zu2 ?_
 refine Ws<|Wl<|zu3 ?_
 refine Wf rfl (by exact decide_eq_false (by omega)) ?_
 refine zu3 ?_
 refine Wf rfl (by exact decide_eq_false (by omega)) ?_
 refine Wj<|Ws<|z8 ?_
 refine zc rfl func246 ((jx) _) ?_
 refine zc rfl func247 ((iU) _) ?_
 refine zc rfl func248 ((ky) _) ?_
 refine zc rfl func249 ((ku) _) ?_
 refine zc rfl func250 ((nL) _) ?_
 refine zs2 ?_
 refine Wl<|jY 7 ?_
 show W _ _ _ _ _ _ _
 refine zu1 ?_
 refine Ws<|Wt rfl (by rfl) ?_
 refine Wj<|Ws<|Wl<|z8 ?_
 refine z2 ?_ (q:=(by decide))
 refine zs1 ?_
 refine zp2 ?_
 refine Wd rfl rfl (be (b:=true) (e:=267) (key:=.s name) (by kernel_rfl) (lO tG rfl) (by kernel_rfl) rfl rfl rfl rfl (by kernel_rfl) ((by exact h0))) ?_
 refine zy5 ?_
 refine zs1 ?_
 refine zu1 ?_
 refine Wt rfl (by rfl) ?_
 refine zu2 ?_
 refine zR ?_
 rfl
def j3(n:Int)(name:Str)(k:Int)(f:FuncId)(cap:List PV)(hn:72<n)(hc:aw cap)(h0:ia rkK rkV (.s name) fa=(fa,false))(h1:ia meK meV (.s name) fa=(bp k f cap,true)):ab prog 200 [i64 n,str name] (bp k f cap):=by
 refine bz tG (rs:=[.cell 4 267]) func200 rfl rfl rfl (by simp[hc]) (by simp[hc]) (fun B=>?_)
 refine zu2 ?_
 refine Ws<|Wl<|zu3 ?_
 refine Wf rfl (by exact decide_eq_false (by omega)) ?_
 refine zu3 ?_
 refine Wf rfl (by exact decide_eq_false (by omega)) ?_
 refine Wj<|Ws<|z8 ?_
 refine zc rfl func246 ((jx) _) ?_
 refine zc rfl func247 ((iU) _) ?_
 refine zc rfl func248 ((ky) _) ?_
 refine zc rfl func249 ((ku) _) ?_
 refine zc rfl func250 ((nL) _) ?_
 refine zs2 ?_
 refine Wl<|jY 7 ?_
 show W _ _ _ _ _ _ _
 refine zu1 ?_
 refine Ws<|Wt rfl (by rfl) ?_
 refine Wj<|Ws<|Wl<|z8 ?_
 refine z2 ?_ (q:=(by decide))
 refine zs1 ?_
 refine zp2 ?_
 refine Wd rfl rfl (be (b:=true) (e:=267) (key:=.s name) (by kernel_rfl) (lO tG rfl) (by kernel_rfl) rfl rfl rfl rfl (by kernel_rfl) ((by exact h0))) ?_
 refine zy5 ?_
 refine zs1 ?_
 refine zu1 ?_
 refine Wf rfl (by rfl) ?_
 refine Wj<|aa rfl ?_
 refine z1 ?_
 refine Wa 36 rfl (show _=PV.val (.int .i64 1) from rfl) ?_
 refine zs1 ?_
 show W _ _ _ _ _ _ _
 refine zu1 ?_
 refine Ws<|Wt rfl (by rfl) ?_
 refine Wj<|Ws<|Wl<|z8 ?_
 refine z2 ?_ (q:=(by decide))
 refine zs1 ?_
 refine zp2 ?_
 refine Wd rfl rfl (be (b:=true) (e:=267) (key:=.s name) (by kernel_rfl) (lO tG rfl) (by kernel_rfl) rfl rfl rfl rfl (by kernel_rfl) ((by exact h1))) ?_
 refine zy5 ?_
 refine zs1 ?_
 refine zu1 ?_
 refine Wt rfl (by rfl) ?_
 refine zu2 ?_
 refine zR ?_
 rfl
def iJ(n:Int)(name:Str)(k:Int)(f:FuncId)(cap:List PV)(hn:72<n)(hc:aw cap)(h0:ia rkK rkV (.s name) fa=(fa,false))(h1:ia meK meV (.s name) fa=(fa,false))(h2:ia spK spV (.s name) fa=(bp k f cap,true)):ab prog 200 [i64 n,str name] (bp k f cap):=by
 refine bz tG (rs:=[.cell 4 267]) func200 rfl rfl rfl (by simp[hc]) (by simp[hc]) (fun B=>?_)
 refine zu2 ?_
 refine Ws<|Wl<|zu3 ?_
 refine Wf rfl (by exact decide_eq_false (by omega)) ?_
 refine zu3 ?_
 refine Wf rfl (by exact decide_eq_false (by omega)) ?_
 refine Wj<|Ws<|z8 ?_
 refine zc rfl func246 ((jx) _) ?_
 refine zc rfl func247 ((iU) _) ?_
 refine zc rfl func248 ((ky) _) ?_
 refine zc rfl func249 ((ku) _) ?_
 refine zc rfl func250 ((nL) _) ?_
 refine zs2 ?_
 refine Wl<|jY 7 ?_
 show W _ _ _ _ _ _ _
 refine zu1 ?_
 refine Ws<|Wt rfl (by rfl) ?_
 refine Wj<|Ws<|Wl<|z8 ?_
 refine z2 ?_ (q:=(by decide))
 refine zs1 ?_
 refine zp2 ?_
 refine Wd rfl rfl (be (b:=true) (e:=267) (key:=.s name) (by kernel_rfl) (lO tG rfl) (by kernel_rfl) rfl rfl rfl rfl (by kernel_rfl) ((by exact h0))) ?_
 refine zy5 ?_
 refine zs1 ?_
 refine zu1 ?_
 refine Wf rfl (by rfl) ?_
 refine Wj<|aa rfl ?_
 refine z1 ?_
 refine Wa 36 rfl (show _=PV.val (.int .i64 1) from rfl) ?_
 refine zs1 ?_
 show W _ _ _ _ _ _ _
 refine zu1 ?_
 refine Ws<|Wt rfl (by rfl) ?_
 refine Wj<|Ws<|Wl<|z8 ?_
 refine z2 ?_ (q:=(by decide))
 refine zs1 ?_
 refine zp2 ?_
 refine Wd rfl rfl (be (b:=true) (e:=267) (key:=.s name) (by kernel_rfl) (lO tG rfl) (by kernel_rfl) rfl rfl rfl rfl (by kernel_rfl) ((by exact h1))) ?_
 refine zy5 ?_
 refine zs1 ?_
 refine zu1 ?_
 refine Wf rfl (by rfl) ?_
 refine Wj<|aa rfl ?_
 refine z1 ?_
 refine Wa 36 rfl (show _=PV.val (.int .i64 2) from rfl) ?_
 refine zs1 ?_
 show W _ _ _ _ _ _ _
 refine zu1 ?_
 refine Ws<|Wt rfl (by rfl) ?_
 refine Wj<|Ws<|Wl<|z8 ?_
 refine z2 ?_ (q:=(by decide))
 refine zs1 ?_
 refine zp2 ?_
 refine Wd rfl rfl (be (b:=true) (e:=267) (key:=.s name) (by kernel_rfl) (lO tG rfl) (by kernel_rfl) rfl rfl rfl rfl (by kernel_rfl) ((by exact h2))) ?_
 refine zy5 ?_
 refine zs1 ?_
 refine zu1 ?_
 refine Wt rfl (by rfl) ?_
 refine zu2 ?_
 refine zR ?_
 rfl
def oa(n:Int)(name:Str)(k:Int)(f:FuncId)(cap:List PV)(hn:72<n)(hc:aw cap)(h0:ia rkK rkV (.s name) fa=(fa,false))(h1:ia meK meV (.s name) fa=(fa,false))(h2:ia spK spV (.s name) fa=(fa,false))(h3:ia prK prV (.s name) fa=(bp k f cap,true)):ab prog 200 [i64 n,str name] (bp k f cap):=by
 refine bz tG (rs:=[.cell 4 267]) func200 rfl rfl rfl (by simp[hc]) (by simp[hc]) (fun B=>?_)
 refine zu2 ?_
 refine Ws<|Wl<|zu3 ?_
 refine Wf rfl (by exact decide_eq_false (by omega)) ?_
 refine zu3 ?_
 refine Wf rfl (by exact decide_eq_false (by omega)) ?_
 refine Wj<|Ws<|z8 ?_
 refine zc rfl func246 ((jx) _) ?_
 refine zc rfl func247 ((iU) _) ?_
 refine zc rfl func248 ((ky) _) ?_
 refine zc rfl func249 ((ku) _) ?_
 refine zc rfl func250 ((nL) _) ?_
 refine zs2 ?_
 refine Wl<|jY 7 ?_
 show W _ _ _ _ _ _ _
 refine zu1 ?_
 refine Ws<|Wt rfl (by rfl) ?_
 refine Wj<|Ws<|Wl<|z8 ?_
 refine z2 ?_ (q:=(by decide))
 refine zs1 ?_
 refine zp2 ?_
 refine Wd rfl rfl (be (b:=true) (e:=267) (key:=.s name) (by kernel_rfl) (lO tG rfl) (by kernel_rfl) rfl rfl rfl rfl (by kernel_rfl) ((by exact h0))) ?_
 refine zy5 ?_
 refine zs1 ?_
 refine zu1 ?_
 refine Wf rfl (by rfl) ?_
 refine Wj<|aa rfl ?_
 refine z1 ?_
 refine Wa 36 rfl (show _=PV.val (.int .i64 1) from rfl) ?_
 refine zs1 ?_
 show W _ _ _ _ _ _ _
 refine zu1 ?_
 refine Ws<|Wt rfl (by rfl) ?_
 refine Wj<|Ws<|Wl<|z8 ?_
 refine z2 ?_ (q:=(by decide))
 refine zs1 ?_
 refine zp2 ?_
 refine Wd rfl rfl (be (b:=true) (e:=267) (key:=.s name) (by kernel_rfl) (lO tG rfl) (by kernel_rfl) rfl rfl rfl rfl (by kernel_rfl) ((by exact h1))) ?_
 refine zy5 ?_
 refine zs1 ?_
 refine zu1 ?_
 refine Wf rfl (by rfl) ?_
 refine Wj<|aa rfl ?_
 refine z1 ?_
 refine Wa 36 rfl (show _=PV.val (.int .i64 2) from rfl) ?_
 refine zs1 ?_
 show W _ _ _ _ _ _ _
 refine zu1 ?_
 refine Ws<|Wt rfl (by rfl) ?_
 refine Wj<|Ws<|Wl<|z8 ?_
 refine z2 ?_ (q:=(by decide))
 refine zs1 ?_
 refine zp2 ?_
 refine Wd rfl rfl (be (b:=true) (e:=267) (key:=.s name) (by kernel_rfl) (lO tG rfl) (by kernel_rfl) rfl rfl rfl rfl (by kernel_rfl) ((by exact h2))) ?_
 refine zy5 ?_
 refine zs1 ?_
 refine zu1 ?_
 refine Wf rfl (by rfl) ?_
 refine Wj<|aa rfl ?_
 refine z1 ?_
 refine Wa 36 rfl (show _=PV.val (.int .i64 3) from rfl) ?_
 refine zs1 ?_
 show W _ _ _ _ _ _ _
 refine zu1 ?_
 refine Ws<|Wt rfl (by rfl) ?_
 refine Wj<|Ws<|Wl<|z8 ?_
 refine z2 ?_ (q:=(by decide))
 refine zs1 ?_
 refine zp2 ?_
 refine Wd rfl rfl (be (b:=true) (e:=267) (key:=.s name) (by kernel_rfl) (lO tG rfl) (by kernel_rfl) rfl rfl rfl rfl (by kernel_rfl) ((by exact h3))) ?_
 refine zy5 ?_
 refine zs1 ?_
 refine zu1 ?_
 refine Wt rfl (by rfl) ?_
 refine zu2 ?_
 refine zR ?_
 rfl
def pJ(n:Int)(name:Str)(k:Int)(f:FuncId)(cap:List PV)(hn:72<n)(hc:aw cap)(h0:ia rkK rkV (.s name) fa=(fa,false))(h1:ia meK meV (.s name) fa=(fa,false))(h2:ia spK spV (.s name) fa=(fa,false))(h3:ia prK prV (.s name) fa=(fa,false))(h4:ia piK piV (.s name) fa=(bp k f cap,true)):ab prog 200 [i64 n,str name] (bp k f cap):=by
 refine bz tG (rs:=[.cell 4 267]) func200 rfl rfl rfl (by simp[hc]) (by simp[hc]) (fun B=>?_)
 refine zu2 ?_
 refine Ws<|Wl<|zu3 ?_
 refine Wf rfl (by exact decide_eq_false (by omega)) ?_
 refine zu3 ?_
 refine Wf rfl (by exact decide_eq_false (by omega)) ?_
 refine Wj<|Ws<|z8 ?_
 refine zc rfl func246 ((jx) _) ?_
 refine zc rfl func247 ((iU) _) ?_
 refine zc rfl func248 ((ky) _) ?_
 refine zc rfl func249 ((ku) _) ?_
 refine zc rfl func250 ((nL) _) ?_
 refine zs2 ?_
 refine Wl<|jY 7 ?_
 show W _ _ _ _ _ _ _
 refine zu1 ?_
 refine Ws<|Wt rfl (by rfl) ?_
 refine Wj<|Ws<|Wl<|z8 ?_
 refine z2 ?_ (q:=(by decide))
 refine zs1 ?_
 refine zp2 ?_
 refine Wd rfl rfl (be (b:=true) (e:=267) (key:=.s name) (by kernel_rfl) (lO tG rfl) (by kernel_rfl) rfl rfl rfl rfl (by kernel_rfl) ((by exact h0))) ?_
 refine zy5 ?_
 refine zs1 ?_
 refine zu1 ?_
 refine Wf rfl (by rfl) ?_
 refine Wj<|aa rfl ?_
 refine z1 ?_
 refine Wa 36 rfl (show _=PV.val (.int .i64 1) from rfl) ?_
 refine zs1 ?_
 show W _ _ _ _ _ _ _
 refine zu1 ?_
 refine Ws<|Wt rfl (by rfl) ?_
 refine Wj<|Ws<|Wl<|z8 ?_
 refine z2 ?_ (q:=(by decide))
 refine zs1 ?_
 refine zp2 ?_
 refine Wd rfl rfl (be (b:=true) (e:=267) (key:=.s name) (by kernel_rfl) (lO tG rfl) (by kernel_rfl) rfl rfl rfl rfl (by kernel_rfl) ((by exact h1))) ?_
 refine zy5 ?_
 refine zs1 ?_
 refine zu1 ?_
 refine Wf rfl (by rfl) ?_
 refine Wj<|aa rfl ?_
 refine z1 ?_
 refine Wa 36 rfl (show _=PV.val (.int .i64 2) from rfl) ?_
 refine zs1 ?_
 show W _ _ _ _ _ _ _
 refine zu1 ?_
 refine Ws<|Wt rfl (by rfl) ?_
 refine Wj<|Ws<|Wl<|z8 ?_
 refine z2 ?_ (q:=(by decide))
 refine zs1 ?_
 refine zp2 ?_
 refine Wd rfl rfl (be (b:=true) (e:=267) (key:=.s name) (by kernel_rfl) (lO tG rfl) (by kernel_rfl) rfl rfl rfl rfl (by kernel_rfl) ((by exact h2))) ?_
 refine zy5 ?_
 refine zs1 ?_
 refine zu1 ?_
 refine Wf rfl (by rfl) ?_
 refine Wj<|aa rfl ?_
 refine z1 ?_
 refine Wa 36 rfl (show _=PV.val (.int .i64 3) from rfl) ?_
 refine zs1 ?_
 show W _ _ _ _ _ _ _
 refine zu1 ?_
 refine Ws<|Wt rfl (by rfl) ?_
 refine Wj<|Ws<|Wl<|z8 ?_
 refine z2 ?_ (q:=(by decide))
 refine zs1 ?_
 refine zp2 ?_
 refine Wd rfl rfl (be (b:=true) (e:=267) (key:=.s name) (by kernel_rfl) (lO tG rfl) (by kernel_rfl) rfl rfl rfl rfl (by kernel_rfl) ((by exact h3))) ?_
 refine zy5 ?_
 refine zs1 ?_
 refine zu1 ?_
 refine Wf rfl (by rfl) ?_
 refine Wj<|aa rfl ?_
 refine z1 ?_
 refine Wa 36 rfl (show _=PV.val (.int .i64 4) from rfl) ?_
 refine zs1 ?_
 show W _ _ _ _ _ _ _
 refine zu1 ?_
 refine Ws<|Wt rfl (by rfl) ?_
 refine Wj<|Ws<|Wl<|z8 ?_
 refine z2 ?_ (q:=(by decide))
 refine zs1 ?_
 refine zp2 ?_
 refine Wd rfl rfl (be (b:=true) (e:=267) (key:=.s name) (by kernel_rfl) (lO tG rfl) (by kernel_rfl) rfl rfl rfl rfl (by kernel_rfl) ((by exact h4))) ?_
 refine zy5 ?_
 refine zs1 ?_
 refine zu1 ?_
 refine Wt rfl (by rfl) ?_
 refine zu2 ?_
 refine zR ?_
 rfl
def iS(n:Int)(name:Str)(k:Int)(f:FuncId)(cap:List PV)(hn:72<n)(hc:aw cap)(h0:ia rkK rkV (.s name) fa=(fa,false))(h1:ia meK meV (.s name) fa=(fa,false))(h2:ia spK spV (.s name) fa=(fa,false))(h3:ia prK prV (.s name) fa=(fa,false))(h4:ia piK piV (.s name) fa=(fa,false))(h5:ia otK otV (.s name) fa=(bp k f cap,true)):ab prog 200 [i64 n,str name] (bp k f cap):=by
 refine bz tG (rs:=[.cell 4 267]) func200 rfl rfl rfl (by simp[hc]) (by simp[hc]) (fun B=>?_)
 refine zu2 ?_
 refine Ws<|Wl<|zu3 ?_
 refine Wf rfl (by exact decide_eq_false (by omega)) ?_
 refine zu3 ?_
 refine Wf rfl (by exact decide_eq_false (by omega)) ?_
 refine Wj<|Ws<|z8 ?_
 refine zc rfl func246 ((jx) _) ?_
 refine zc rfl func247 ((iU) _) ?_
 refine zc rfl func248 ((ky) _) ?_
 refine zc rfl func249 ((ku) _) ?_
 refine zc rfl func250 ((nL) _) ?_
 refine zs2 ?_
 refine Wl<|jY 7 ?_
 show W _ _ _ _ _ _ _
 refine zu1 ?_
 refine Ws<|Wt rfl (by rfl) ?_
 refine Wj<|Ws<|Wl<|z8 ?_
 refine z2 ?_ (q:=(by decide))
 refine zs1 ?_
 refine zp2 ?_
 refine Wd rfl rfl (be (b:=true) (e:=267) (key:=.s name) (by kernel_rfl) (lO tG rfl) (by kernel_rfl) rfl rfl rfl rfl (by kernel_rfl) ((by exact h0))) ?_
 refine zy5 ?_
 refine zs1 ?_
 refine zu1 ?_
 refine Wf rfl (by rfl) ?_
 refine Wj<|aa rfl ?_
 refine z1 ?_
 refine Wa 36 rfl (show _=PV.val (.int .i64 1) from rfl) ?_
 refine zs1 ?_
 show W _ _ _ _ _ _ _
 refine zu1 ?_
 refine Ws<|Wt rfl (by rfl) ?_
 refine Wj<|Ws<|Wl<|z8 ?_
 refine z2 ?_ (q:=(by decide))
 refine zs1 ?_
 refine zp2 ?_
 refine Wd rfl rfl (be (b:=true) (e:=267) (key:=.s name) (by kernel_rfl) (lO tG rfl) (by kernel_rfl) rfl rfl rfl rfl (by kernel_rfl) ((by exact h1))) ?_
 refine zy5 ?_
 refine zs1 ?_
 refine zu1 ?_
 refine Wf rfl (by rfl) ?_
 refine Wj<|aa rfl ?_
 refine z1 ?_
 refine Wa 36 rfl (show _=PV.val (.int .i64 2) from rfl) ?_
 refine zs1 ?_
 show W _ _ _ _ _ _ _
 refine zu1 ?_
 refine Ws<|Wt rfl (by rfl) ?_
 refine Wj<|Ws<|Wl<|z8 ?_
 refine z2 ?_ (q:=(by decide))
 refine zs1 ?_
 refine zp2 ?_
 refine Wd rfl rfl (be (b:=true) (e:=267) (key:=.s name) (by kernel_rfl) (lO tG rfl) (by kernel_rfl) rfl rfl rfl rfl (by kernel_rfl) ((by exact h2))) ?_
 refine zy5 ?_
 refine zs1 ?_
 refine zu1 ?_
 refine Wf rfl (by rfl) ?_
 refine Wj<|aa rfl ?_
 refine z1 ?_
 refine Wa 36 rfl (show _=PV.val (.int .i64 3) from rfl) ?_
 refine zs1 ?_
 show W _ _ _ _ _ _ _
 refine zu1 ?_
 refine Ws<|Wt rfl (by rfl) ?_
 refine Wj<|Ws<|Wl<|z8 ?_
 refine z2 ?_ (q:=(by decide))
 refine zs1 ?_
 refine zp2 ?_
 refine Wd rfl rfl (be (b:=true) (e:=267) (key:=.s name) (by kernel_rfl) (lO tG rfl) (by kernel_rfl) rfl rfl rfl rfl (by kernel_rfl) ((by exact h3))) ?_
 refine zy5 ?_
 refine zs1 ?_
 refine zu1 ?_
 refine Wf rfl (by rfl) ?_
 refine Wj<|aa rfl ?_
 refine z1 ?_
 refine Wa 36 rfl (show _=PV.val (.int .i64 4) from rfl) ?_
 refine zs1 ?_
 show W _ _ _ _ _ _ _
 refine zu1 ?_
 refine Ws<|Wt rfl (by rfl) ?_
 refine Wj<|Ws<|Wl<|z8 ?_
 refine z2 ?_ (q:=(by decide))
 refine zs1 ?_
 refine zp2 ?_
 refine Wd rfl rfl (be (b:=true) (e:=267) (key:=.s name) (by kernel_rfl) (lO tG rfl) (by kernel_rfl) rfl rfl rfl rfl (by kernel_rfl) ((by exact h4))) ?_
 refine zy5 ?_
 refine zs1 ?_
 refine zu1 ?_
 refine Wf rfl (by rfl) ?_
 refine Wj<|aa rfl ?_
 refine z1 ?_
 refine Wa 36 rfl (show _=PV.val (.int .i64 5) from rfl) ?_
 refine zs1 ?_
 show W _ _ _ _ _ _ _
 refine zu1 ?_
 refine Ws<|Wf rfl (by rfl) ?_
 refine bi ?_
 refine Ws<|ax [0,1,0,3] [0,1,2,3] mG rfl (by kernel_rfl) ?_
 refine Xc rfl rfl rfl rfl (fun _=>dC rfl func251 rfl rfl ((Ir) _)) ?_
 refine z5 ?_
 refine im rfl rfl rfl rfl (fun _=>be (b:=false) (e:=267) (key:=.s name) (by kernel_rfl) (lO tG rfl) (by kernel_rfl) rfl rfl rfl rfl (by kernel_rfl) ((by exact h5))) ?_
 refine dH tG rfl rfl rfl rfl rfl trivial ?_
 refine aQ ?_
 refine zR ?_
 rfl
def Nm(l:List Int)(hl:l.length<=1000000):Sd prog 201 [sq ap l] l.length (l.flatMap ap) 1:=by
 refine OR tG (rs:=[.tmp 2]) func201 rfl rfl rfl (by simp) (bv (fun x=>by simp) _) (fun B=>?_)
 refine zp1 ?_
 refine EG 2 0 1 rfl rfl ?_
 refine Wn<|Ws<|zp1 ?_
 refine wX (lO tG rfl) rfl rfl rfl rfl rfl (fun bn1 hn1=>?_)
 refine Wn<|Wi rfl (fun hi1=>?_) (fun hi1=>?_)
 ·refine zp1 ?_
  refine EG 2 0 1 rfl rfl ?_
  refine Wn<|Wq ?_
  exact YL rfl (hn1 hi1).1.symm (hn1 hi1).2.symm rfl (by omega)
 refine Wj<|zp2 ?_
 refine Wd rfl rfl (ce (lO tG rfl) rfl (lO tG rfl) (lO tG rfl) rfl rfl (by exact⟨_,rfl⟩) (by exact⟨rfl,rfl,al _ 1 (fun _=>rfl) _,bF _ (fun _=>rfl) _⟩) (by rfl) (by(dsimp only;omega)) (by(omega))) ?_
 refine Wa 7 rfl (yS ap) ?_
 refine z1 ?_
 skip
 refine Wn<|Wq ?_
 exact YL rfl rfl rfl rfl (by show(0+l.length)*1<=_;omega)
def jz(s:List Int)(roll:Bool)(limit:Int):List Int×Bool×Int :=
 if (bo s).2.2≠0\/(bo s).1<0\/((bo s).2.1.length:Int)<=(bo s).1 then(s,true,-4)else
  if roll then ma s ((bo s).1.toNat+2) ((bo s).2.1.drop ((bo s).2.1.length-1-(bo s).1.toNat+1)++[(bo s).2.1.getD ((bo s).2.1.length-1-(bo s).1.toNat) 0]) limit
  else ma s 1 [(bo s).2.1.getD ((bo s).2.1.length-1-(bo s).1.toNat) 0] limit
def Ks{s:List Int}(h:(bo s).2.2=0):(bo s).2.1.length+1=s.length:=by
 unfold bo at h ⊢
 split at h
 ·cases h
 rename_i h0
 rw[if_neg h0]
 simp only[List.length_take];omega
def HK(s:List Int)(roll:Bool)(limit:Int)(hs:s.length<=100000)(hm : -9223372036854775808<=limit/\limit<=9223372036854775807):
  ab prog 238 [sq ap s,boo roll,i64 limit] (BN (jz s roll limit)):=by
 refine zY func238 fun B=>?_
 refine zu3 ?_
 refine zp1 ?_
 refine zc rfl func259 ((DQ s hs) _) ?_
 refine zy5 ?_
 refine zs2 ?_
 refine Ws<|zp3 ?_
 refine Wb 21 rfl (fun hg1=>?_) (fun hg1=>?_)
 ·have h0:(bo s).2.2≠0:=by simpa using hg1
  iterate 2 refine z6 ?_
  refine zy2 ?_
  iterate 4 refine z6 ?_
  refine zs1 ?_
  refine Wt rfl rfl ?_
  refine zu4 ?_
  refine zR ?_
  rw[jz,if_pos (.inl h0)];rfl
 have h0:(bo s).2.2=0:=by simpa using hg1
 have hl:=Ks h0
 refine zy4 ?_
 refine Wb 25 rfl (fun hg2=>?_) (fun hg2=>?_)
 ·have h1:(bo s).1<0:=by simpa using hg2
  iterate 4 refine z6 ?_
  refine zs1 ?_
  refine Wt rfl rfl ?_
  refine zu4 ?_
  refine zR ?_
  rw[jz,if_pos (.inr (.inl h1))];rfl
 have h1:¬(bo s).1<0:=by simpa using hg2
 refine zs5 ?_
 refine Wi rfl (fun hi1=>?_) (fun hi1=>?_)
 ·have h2:((bo s).2.1.length:Int)<=(bo s).1:=by simpa using hi1
  refine zu4 ?_
  refine zR ?_
  rw[jz,if_pos (.inr (.inr h2))];rfl
 have h2:¬((bo s).2.1.length:Int)<=(bo s).1:=by simpa using hi1
 have hc:¬((bo s).2.2≠0\/(bo s).1<0\/((bo s).2.1.length:Int)<=(bo s).1):=by rintro(h|h|h)<;>contradiction
 have w1:IntKind.i64.wrap (IntKind.i64.wrap (((bo s).2.1.length:Int)-1)-(bo s).1)=(((bo s).2.1.length-1-(bo s).1.toNat:Nat):Int):=by simp only[bU];unfold wrap64;omega
 have w2:IntKind.i64.wrap ((((bo s).2.1.length-1-(bo s).1.toNat:Nat):Int)+1)=(((bo s).2.1.length-1-(bo s).1.toNat+1:Nat):Int):=by simp only[bU];unfold wrap64;omega
 have w3:IntKind.i64.wrap ((bo s).1+2)=(((bo s).1.toNat+2:Nat):Int):=by simp only[bU];unfold wrap64;omega
 refine Wj<|zp5 ?_
 refine Wa 36 rfl (congrArg (fun z=>PV.val (Value.int .i64 z)) w1) ?_
 refine zs1 ?_
 refine Ws<|zu1 ?_
 refine Wi rfl (fun hi2=>?_) (fun hi2=>?_)
 ·refine Ws<|ax [0,0,0,0,0,0,0,2,0,0,0,0,0,3,0,0,0,0,0,0,0,0] [0,1,2,3,4,5,6,8,9,10,11,12,14,7,13,15,16,17,18,19,20,21] mG rfl (by kernel_rfl) ?_
  iterate 3 refine z3 ?_
  refine Xa 40 rfl (congrArg (fun z=>PV.val (Value.int .i64 z)) w3) ?_
  iterate 3 refine z3 ?_
  refine Xa 43 rfl (congrArg (fun z=>PV.val (Value.int .i64 z)) w2) ?_
  refine z4 ?_ (q:=(by(simp_all;omega)))
  refine Xa 44 rfl (cM ap 1 (fun _=>rfl) (by omega)) ?_
  refine Xa 44 rfl ((show _=sq ap ((bo s).2.1.drop ((bo s).2.1.length-1-(bo s).1.toNat+1)) by rw[List.take_length,Int.toNat_natCast];rfl)) ?_
  iterate 2 refine z3 ?_
  refine Xi tG rfl rfl rfl rfl (fun _=>rfl) (by omega) (iN ap 1 (fun _=>rfl) 0 (by omega)) ?_
  iterate 2 refine z3 ?_
  refine Xa 50 rfl (bsL ap [_] rfl rfl) ?_
  refine z3 ?_
  refine Un rfl rfl rfl rfl (dC rfl func201 rfl rfl (Nm _ (by simp;omega) _)) ?_
  refine mD rfl rfl rfl rfl (fw (lO tG rfl) rfl (lO tG rfl) (lO tG rfl) rfl rfl rfl rfl (by simp) (by exact⟨_,rfl⟩) (by exact⟨rfl,rfl,al _ 1 (fun _=>rfl) _,bF _ (fun _=>rfl) _⟩) (by(simp;omega)) (by(simp;omega))) ?_
  refine Xa 51 rfl (cz ap) ?_
  refine Xc rfl rfl rfl rfl (fun _=>dC rfl func237 rfl rfl ((qq s _ _ _ hs (by omega) (by simp;omega) hm) _)) ?_
  iterate 6 refine z3 ?_
  refine aQ ?_
  refine zR ?_
  rw[jz,if_neg hc,if_pos hi2];rfl
 refine Wj<|zp3 ?_
 refine Wv tG rfl rfl rfl (by omega) (iN ap 1 (fun _=>rfl) 0 (by omega)) ?_
 refine zy2 ?_
 refine Wa 62 rfl (bsL ap [_] rfl rfl) ?_
 refine z1 ?_
 refine zc rfl func237 ((qq s 1 _ _ hs (by omega) (by simp) hm) _) ?_
 refine zy5 ?_
 refine zs1 ?_
 refine zR ?_
 rw[jz,if_neg hc,if_neg (by rw[hi2];simp)];rfl
def RU:List (Str×Nat×Str):=[([68,85,80],1,[97,97]),([68,82,79,80],1,[]),([83,87,65,80],2,[98,97]),([79,86,69,82],2,[97,98,97]),([78,73,80],2,[98]),([84,85,67,75],2,[98,97,98]),([82,79,84],3,[98,99,97]),([45,82,79,84],3,[99,97,98]),([50,68,85,80],2,[97,98,97,98]),([50,68,82,79,80],2,[]),([50,83,87,65,80],4,[99,100,97,98]),([50,79,86,69,82],4,[97,98,99,100,97,98])]
def Fp:List ga:=RU.map fun q=>.s q.1
def BE:List PV:=RU.map fun q=>.agg [i64 q.2.1,str q.2.2]
def Hm:aU (.smap Fp BE):=by
 unfold aU BE
 exact Dw _ (fun q=>by simp) _
def zm:ab prog 239 [] (.smap Fp BE):=by
 refine bz tG (rs:=[.tmp 0]) func239 rfl rfl rfl (by simp;done) (by exact Hm) (fun B=>?_)
 refine zu1 ?_
 refine z8 ?_
 refine Wd rfl rfl (du rfl) ?_
 refine z1 ?_
 refine zD 292 (.s [68,85,80]) ?_
 refine z1 ?_
 refine zD 292 (.s [68,82,79,80]) ?_
 refine z1 ?_
 refine zD 292 (.s [83,87,65,80]) ?_
 refine z1 ?_
 refine zD 292 (.s [79,86,69,82]) ?_
 refine z1 ?_
 refine zD 292 (.s [78,73,80]) ?_
 refine z1 ?_
 refine zD 292 (.s [84,85,67,75]) ?_
 refine z1 ?_
 refine zD 292 (.s [82,79,84]) ?_
 refine z1 ?_
 refine zD 292 (.s [45,82,79,84]) ?_
 refine z1 ?_
 refine zD 292 (.s [50,68,85,80]) ?_
 refine z1 ?_
 refine zD 292 (.s [50,68,82,79,80]) ?_
 refine z1 ?_
 refine zD 292 (.s [50,83,87,65,80]) ?_
 refine z1 ?_
 refine zD 292 (.s [50,79,86,69,82]) ?_
 refine z1 ?_
 refine eZ 14 _ rfl rfl rfl ?_
 refine zs1 ?_
 refine zR ?_
 rfl
def KH(s:List Int)(tk:Nat)(lv:Str)(limit:Int):List Int×Bool×Int :=
 if s.length<tk then(s,true,-4)else ma s tk (lv.map fun c=>(s.drop (s.length-tk)).getD (c.toNat-97) 0) limit
def GX{lv:Str}{f:UInt8->Int}{k:Nat}{q:SK}(hk:k<lv.length):PV.seq ((lv.take k).map f++[f (lv.getD k 0)]).length (((lv.take k).map f++[f (lv.getD k 0)]).flatMap ap) q=.seq ((lv.take (k+1)).map f).length (((lv.take (k+1)).map f).flatMap ap) q:=by
 rw[ki lv k 0 hk,List.map_append];rfl
def iQ(name:Str)(s:List Int)(limit:Int)(tk:Nat)(lv:Str)(hs:s.length<=100000)(hm : -9223372036854775808<=limit/\limit<=9223372036854775807)(h1:name≠[68,69,80,84,72])(h2:name≠[80,73,67,75])(h3:name≠[82,79,76,76])(h4:name≠[63,68,85,80])
  (hk:ia Fp BE (.s name) (.agg [i64 0,str []])=(.agg [i64 tk,str lv],true)) (hl:∀c∈lv,97<=c.toNat/\c.toNat<97+tk) (hlen:lv.length<=10) (htk:tk<=4) :
  ab prog 199 [str name,sq ap s,i64 limit] (BN (KH s tk lv limit)):=by
 refine zY func199 fun B=>?_
 refine zu3 ?_
 refine Ws<|zu1 ?_
 refine Wl<|zp1 ?_
 refine zq 17 ?_
 refine zs1 ?_
 refine Wf rfl (by exact decide_eq_false h1) ?_
 refine Ws<|zp1 ?_
 refine zq 28 ?_
 refine zs1 ?_
 refine Wf rfl (by exact decide_eq_false h2) ?_
 refine aa rfl ?_
 refine z1 ?_
 refine zq 29 ?_
 refine zs1 ?_
 refine Wf rfl (by exact decide_eq_false h3) ?_
 refine Wj<|z8 ?_
 refine zc rfl func239 ((zm) _) ?_
 refine z1 ?_
 refine Wd rfl rfl (be (b:=true) (e:=292) (key:=.s name) (by kernel_rfl) (lO tG rfl) (by kernel_rfl) rfl rfl rfl rfl (by kernel_rfl) (hk)) ?_
 refine zy5 ?_
 refine zs1 ?_
 refine Ws<|zp2 ?_
 refine zq 45 ?_
 refine Wn<|Wf rfl (by exact decide_eq_false h4) ?_
 refine Wj<|Ws<|zu2 ?_
 refine Wf rfl (by rfl) ?_
 refine Wj<|Ws<|zu5 ?_
 refine Wi rfl (fun hi6=>?_) (fun hi6=>?_)
 ·have h0:s.length<tk:=by(try simp only[dnL]at *);omega
  refine zu4 ?_
  refine zR ?_
  rw[KH,if_pos h0];rfl
 have h0:¬s.length<tk:=by(try simp only[dnL]at *);omega
 have w1:IntKind.i64.wrap ((s.length:Int)-(tk:Int))=((s.length-tk:Nat):Int):=by((rw[bU];unfold wrap64;(try simp only[dnL]at *);omega))
 refine Wj<|zp5 ?_
 refine z1 ?_
 refine Wa 74 rfl (congrArg (fun z=>PV.val (Value.int .i64 z)) w1) ?_
 refine z2 ?_ (q:=(by(simp_all;done)))
 refine Wa 75 rfl (cM ap 1 (fun _=>rfl) (by omega)) ?_
 refine Wa 75 rfl ((show _=sq ap (s.drop (s.length-tk)) by rw[List.take_length,Int.toNat_natCast];rfl)) ?_
 refine zs1 ?_
 refine zp1 ?_
 refine EG 12 0 1 rfl rfl ?_
 refine Wn<|Ws<|zp2 ?_
 refine Wd rfl rfl (po (lO tG rfl) rfl rfl rfl) ?_
 refine Wn<|Wl ?_
 show W _ _ _ _ _ _ _
 refine gz (fun(k:Nat)=>[(1,sq ap s),(2,i64 limit),(9,.ptr 0 0),(11,sq ap (s.drop (s.length-tk))),(78,.ptr 3 0),(12,.seq ((lv.take k).map fun c=>(s.drop (s.length-tk)).getD (c.toNat-97) 0).length (((lv.take k).map fun c=>(s.drop (s.length-tk)).getD (c.toNat-97) 0).flatMap ap) (.own 4 1))]) (fun(k:Nat)=>[.cells [i64 tk,str lv] 292,.dead,.dead]) (fun(k:Nat)=>[.iter lv k,.free (((lv.take k).map fun c=>(s.drop (s.length-tk)).getD (c.toNat-97) 0).length*1)]) (fun(k:Nat)=>k<=lv.length) (fun(k:Nat)=>lv.length-k) (0) (by omega) [2,1] ?_ ?_
 ·exact fM
 intro k hk
 refine z8 ?_
 by_cases hx1:k<lv.length
 ·have hc:=hl (lv.getD k 0) (by simp only[List.getD,List.getElem?_eq_getElem hx1,Option.getD_some];exact List.getElem_mem hx1)
  have w2:IntKind.i32.wrap (((lv.getD k 0).toNat:Int)-97)=(((lv.getD k 0).toNat-97:Nat):Int):=by rw[IntWalk.i32_left];unfold wrap32;omega
  refine Wd rfl rfl (tV rfl rfl rfl (by exact hx1) (by omega)) ?_
  refine zs1 ?_
  refine Ws<|Wt rfl rfl ?_
  refine Wj<|Wl<|zu2 ?_
  refine aa rfl ?_
  refine zy4 ?_
  refine Wa 85 rfl (congrArg (fun z=>PV.val (Value.int .i32 z)) w2) ?_
  refine Wv tG rfl rfl rfl (by simp only[List.length_drop,Int.toNat_natCast];omega) (iN ap 1 (fun _=>rfl) 0 (by simp only[List.length_drop,Int.toNat_natCast];omega)) ?_
  refine zy2 ?_
  refine Wa 88 rfl (bsL ap [_] rfl rfl) ?_
  refine Wd rfl rfl (fw (lO tG rfl) rfl (lO tG rfl) (lO tG rfl) rfl rfl rfl rfl (by simp) (by exact⟨_,rfl⟩) (by exact⟨rfl,rfl,al _ 1 (fun _=>rfl) _,bF _ (fun _=>rfl) _⟩) (by((simp_all;omega))) (by((simp_all;omega)))) ?_
  refine Wa 89 rfl (cz ap) ?_
  refine z1 ?_
  skip
  refine Wn ?_
  exact⟨k+1,[3,5],(by omega),(by omega),(fM (sub:=by repeat (first|exact gl|refine eW (by first|exact cQ rfl|exact cQ (GX hx1)) ?_)))⟩
 refine Wd rfl rfl (pp rfl rfl rfl (by omega)) ?_
 refine zs1 ?_
 refine Ws<|Wf rfl rfl ?_
 refine bi ?_
 refine zp5 ?_
 refine zc rfl func237 ((qq s tk _ limit hs (by omega) (by simp;omega) hm) _) ?_
 refine zy5 ?_
 refine zs1 ?_
 refine zR ?_
 rw[KH,if_neg h0,px lv k (by omega)];rfl
def Ak(s:List Int):Int:=if s.length=0\/s.getD (s.length-1) 0<0\/(s.length:Int)-1<=s.getD (s.length-1) 0 then(s.length:Int)+1 else s.getD (s.length-1) 0+2
def dO{name:Str}{s:List Int}{limit:Int}{tk:Nat}{lv:List Int}(h1:oK name s=(tk:Int))(h2:zA name (s.drop (s.length-tk)) s.length=lv):
  dQ name s limit=if s.length<tk then(s,true,-4)else ma s tk lv limit:=by
 have e:(oK name s).toNat=tk:=by rw[h1];rfl
 unfold dQ
 rw[e,h2,h1,if_neg (by omega)]
 by_cases h:s.length<tk
 ·rw[if_pos h,if_pos (by omega)]
 rw[if_neg h,if_neg (by omega)]
 unfold ma
 rfl
def N0(s:List Int)(limit:Int)(hs:s.length<=100000)(hm : -9223372036854775808<=limit/\limit<=9223372036854775807):ab prog 199 [str [68,69,80,84,72],sq ap s,i64 limit] (BN (dQ [68,69,80,84,72] s limit)):=by
 refine zY func199 fun B=>?_
 refine zu3 ?_
 refine Ws<|zu1 ?_
 refine Wl<|zp1 ?_
 refine zq 17 ?_
 refine zs1 ?_
 refine Wt rfl (by decide) ?_
 refine zp4 ?_
 refine Wa 21 rfl (bsL ap [_] rfl rfl) ?_
 refine z1 ?_
 refine zc rfl func237 ((qq s 0 _ limit hs (by omega) (by simp) hm) _) ?_
 refine zy5 ?_
 refine zs1 ?_
 refine zR ?_
 rw[dO (tk:=0) (lv:=[(s.length:Int)]) rfl rfl,if_neg (by omega)];rfl
def BG{s:List Int}{k:Nat}:(s.drop k).getD 0 0=s.getD k 0:=by unfold List.getD;rw[List.getElem?_drop];rfl
def JP{s:List Int}{k n:Nat}(h:k<n):(s.take n).getD k 0=s.getD k 0:=by unfold List.getD;rw[List.getElem?_take,if_pos h]
def UH{name:Str}{s:List Int}{limit:Int}{roll:Bool}(hp:oK name s=Ak s)(hc:s.length=0\/s.getD (s.length-1) 0<0\/(s.length:Int)-1<=s.getD (s.length-1) 0):jz s roll limit=dQ name s limit:=by
 have e:Ak s=(s.length:Int)+1:=by rw[Ak,if_pos hc]
 unfold dQ
 rw[hp,e,if_neg (by omega),if_pos (by omega)]
 unfold jz
 rw[if_pos]
 unfold bo
 split
 ·exact .inl (by simp)
 rename_i h0
 refine .inr ?_
 rcases hc with hc|hc|hc
 ·exact absurd hc h0
 ·exact .inl hc
 refine .inr ?_
 simp only[List.length_take];omega
def OA{name:Str}{s:List Int}{limit:Int}{roll:Bool}(hp:oK name s=Ak s)(hl:∀x d,zA name x d=if roll then(x.take (x.length-1)).drop 1++[xat x 0]else x.take (x.length-1)++[xat x 0])
  (hc:¬(s.length=0\/s.getD (s.length-1) 0<0\/(s.length:Int)-1<=s.getD (s.length-1) 0)):jz s roll limit=dQ name s limit:=by
 have h0:s.length≠0:=fun h=>hc (.inl h)
 obtain⟨t,ht⟩:∃t:Nat,s.getD (s.length-1) 0=t:=⟨(s.getD (s.length-1) 0).toNat,by have:¬s.getD (s.length-1) 0<0:=fun h=>hc (.inr (.inl h));omega⟩
 have hlt:t+2<=s.length:=by have:¬((s.length:Int)-1<=s.getD (s.length-1) 0):=fun h=>hc (.inr (.inr h));omega
 have e:Ak s=((t+2:Nat):Int):=by rw[Ak,if_neg hc,ht];rfl
 have hd:(s.drop (s.length-(t+2))).length=t+2:=by rw[List.length_drop];omega
 have hx:xat (s.drop (s.length-(t+2))) 0=s.getD (s.length-(t+2)) 0:=BG
 have hpop:bo s=((t:Int),s.take (s.length-1),0):=by unfold bo;rw[if_neg h0,ht]
 rw[dO (tk:=t+2) (hp.trans e) (hl _ _),if_neg (by omega)]
 unfold jz
 rw[hpop]
 simp only[List.length_take,Int.toNat_natCast,Nat.min_eq_left (show s.length-1<=s.length by omega)]
 rw[if_neg (by rintro(h|h|h)<;>omega),hd,hx]
 have e1:s.length-1-1-t=s.length-(t+2):=by omega
 rw[e1,JP (by omega)]
 cases roll with
 | true =>
  simp only[if_true]
  congr 2
  rw[List.drop_take,List.drop_take,List.drop_drop]
  have e2:s.length-(t+2)+1=s.length-(t+2)+1:=rfl
  have e3:s.length-1-(s.length-(t+2)+1)=t+2-1-1:=by omega
  rw[e3]
 | false =>
  simp only[Bool.false_eq_true,if_false]
  unfold ma
  have hl1:((s.drop (s.length-(t+2))).take (t+2-1)++[s.getD (s.length-(t+2)) 0]).length=t+2:=by rw[List.length_append,List.length_take,hd];simp
  have e2:s.length-(t+2)+((s.drop (s.length-(t+2))).take (t+2-1)++[s.getD (s.length-(t+2)) 0]).length=s.length-1+[s.getD (s.length-(t+2)) 0].length:=by rw[hl1];simp;omega
  rw[e2,<-List.append_assoc,<-List.take_add]
  have e3:s.length-(t+2)+(t+2-1)=s.length-1:=by omega
  rw[e3]
def wL{name:Str}{s:List Int}{limit:Int}{roll:Bool}(hp:oK name s=Ak s)(hl:∀x d,zA name x d=if roll then(x.take (x.length-1)).drop 1++[xat x 0]else x.take (x.length-1)++[xat x 0]):
  jz s roll limit=dQ name s limit:=by
 by_cases hc:s.length=0\/s.getD (s.length-1) 0<0\/(s.length:Int)-1<=s.getD (s.length-1) 0
 ·exact UH hp hc
 exact OA hp hl hc
def QU(s:List Int)(limit:Int)(hs:s.length<=100000)(hm : -9223372036854775808<=limit/\limit<=9223372036854775807):ab prog 199 [str [80,73,67,75],sq ap s,i64 limit] (BN (jz s false limit)):=by
 refine zY func199 fun B=>?_
 refine zu3 ?_
 refine Ws<|zu1 ?_
 refine Wl<|zp1 ?_
 refine zq 17 ?_
 refine zs1 ?_
 refine Wf rfl (by decide) ?_
 refine Ws<|zp1 ?_
 refine zq 28 ?_
 refine zs1 ?_
 refine Wt rfl (by decide) ?_
 refine Wj<|Wt rfl (by decide) ?_
 refine zp3 ?_
 refine zq 32 ?_
 refine z1 ?_
 refine zc rfl func238 ((HK s _ limit hs hm) _) ?_
 refine zy5 ?_
 refine zs1 ?_
 refine zR ?_
 rfl
def Rf(s:List Int)(limit:Int)(hs:s.length<=100000)(hm : -9223372036854775808<=limit/\limit<=9223372036854775807):ab prog 199 [str [82,79,76,76],sq ap s,i64 limit] (BN (jz s true limit)):=by
 refine zY func199 fun B=>?_
 refine zu3 ?_
 refine Ws<|zu1 ?_
 refine Wl<|zp1 ?_
 refine zq 17 ?_
 refine zs1 ?_
 refine Wf rfl (by decide) ?_
 refine Ws<|zp1 ?_
 refine zq 28 ?_
 refine zs1 ?_
 refine Wf rfl (by decide) ?_
 refine aa rfl ?_
 refine z1 ?_
 refine zq 29 ?_
 refine zs1 ?_
 refine Wt rfl (by decide) ?_
 refine zp3 ?_
 refine zq 32 ?_
 refine z1 ?_
 refine zc rfl func238 ((HK s _ limit hs hm) _) ?_
 refine zy5 ?_
 refine zs1 ?_
 refine zR ?_
 rfl
def CO(s:List Int)(limit:Int):List Int×Bool×Int :=
 if s.length=0 then(s,true,-4)else ma s 1 (if s.getD (s.length-1) 0=0 then [xat (s.drop (s.length-1)) 0]else [xat (s.drop (s.length-1)) 0,xat (s.drop (s.length-1)) 0]) limit
def QR(s:List Int)(limit:Int)(hs:s.length<=100000)(hm : -9223372036854775808<=limit/\limit<=9223372036854775807):ab prog 199 [str [63,68,85,80],sq ap s,i64 limit] (BN (CO s limit)):=by
 refine zY func199 fun B=>?_
 refine zu3 ?_
 refine Ws<|zu1 ?_
 refine Wl<|zp1 ?_
 refine zq 17 ?_
 refine zs1 ?_
 refine Wf rfl (by decide) ?_
 refine Ws<|zp1 ?_
 refine zq 28 ?_
 refine zs1 ?_
 refine Wf rfl (by decide) ?_
 refine aa rfl ?_
 refine z1 ?_
 refine zq 29 ?_
 refine zs1 ?_
 refine Wf rfl (by decide) ?_
 refine Wj<|z8 ?_
 refine zc rfl func239 ((zm) _) ?_
 refine z1 ?_
 refine Wd rfl rfl (be (b:=true) (e:=292) (key:=.s [63,68,85,80]) (by kernel_rfl) (lO tG rfl) (by kernel_rfl) rfl rfl rfl rfl (by kernel_rfl) ((show ia Fp BE (.s [63,68,85,80]) (PV.agg [i64 0,str []])=(PV.agg [i64 0,str []],false) from rfl))) ?_
 refine zy5 ?_
 refine zs1 ?_
 refine Ws<|zp2 ?_
 refine zq 45 ?_
 refine Wn<|Wt rfl (by decide) ?_
 refine zu3 ?_
 refine zp4 ?_
 refine Wb 50 rfl (fun hg1=>?_) (fun hg1=>?_)
 ·have h0:¬s.length=0:=by(try simp only[dnL]at *);omega
  have w1:IntKind.i64.wrap ((s.length:Int)-1)=((s.length-1:Nat):Int):=by((rw[bU];unfold wrap64;(try simp only[dnL]at *);omega))
  refine zy4 ?_
  refine Wa 54 rfl (congrArg (fun z=>PV.val (Value.int .i64 z)) w1) ?_
  refine Wv tG rfl rfl rfl (by omega) (iN ap 1 (fun _=>rfl) 0 (by omega)) ?_
  refine zs3 ?_
  refine Wi rfl (fun hi5=>?_) (fun hi5=>?_)
  ·have h1:s.getD (s.length-1) 0=0:=oT hi5
   refine aa rfl ?_
   refine zs2 ?_
   refine Ws<|zu2 ?_
   refine Wf rfl rfl ?_
   refine Wj<|Ws<|zu5 ?_
   refine Wf rfl (by(simp only[dnL]at *;omega)) ?_
   refine Wj<|zp5 ?_
   refine z1 ?_
   refine Wa 74 rfl (congrArg (fun z=>PV.val (Value.int .i64 z)) w1) ?_
   refine z2 ?_ (q:=(by(simp_all;done)))
   refine Wa 75 rfl (cM ap 1 (fun _=>rfl) (by omega)) ?_
   refine Wa 75 rfl ((show _=sq ap (s.drop (s.length-1)) by rw[List.take_length,Int.toNat_natCast];rfl)) ?_
   refine zs1 ?_
   refine zu1 ?_
   refine Ws<|zp2 ?_
   refine Wd rfl rfl (po (lO tG rfl) rfl rfl rfl) ?_
   refine Wn<|Wl<|jY 4 ?_
   show W _ _ _ _ _ _ _
   refine z8 ?_
   refine Wd rfl rfl (tV rfl rfl rfl (by decide) (by decide)) ?_
   refine zs1 ?_
   refine Ws<|Wt rfl rfl ?_
   refine Wj<|Wl<|zu2 ?_
   refine aa rfl ?_
   refine zy4 ?_
   refine Wa 85 rfl ((show _=PV.val (.int .i32 0) from rfl)) ?_
   refine Wv tG rfl rfl rfl (by simp only[List.length_drop];omega) (iN ap 1 (fun _=>rfl) 0 (by simp only[List.length_drop];omega)) ?_
   refine zy2 ?_
   refine Wa 88 rfl (bsL ap [_] rfl rfl) ?_
   refine Wd rfl rfl (ce (lO tG rfl) rfl (lO tG rfl) (lO tG rfl) rfl rfl (by exact⟨_,rfl⟩) (by exact⟨rfl,rfl,al _ 1 (fun _=>rfl) _,bF _ (fun _=>rfl) _⟩) (by rfl) (by((simp_all;done))) (by((simp_all;done)))) ?_
   refine Wa 89 rfl (TQ ap _) ?_
   refine zs1 ?_
   show W _ _ _ _ _ _ _
   refine z8 ?_
   refine Wd rfl rfl (pp rfl rfl rfl (by decide)) ?_
   refine zs1 ?_
   refine Ws<|Wf rfl rfl ?_
   refine bi ?_
   refine zp5 ?_
   refine zc rfl func237 ((qq s 1 _ limit hs (by omega) (by simp) hm) _) ?_
   refine zy5 ?_
   refine zs1 ?_
   refine zR ?_
   rw[CO,if_neg h0,if_pos h1];rfl
  have h1:¬s.getD (s.length-1) 0=0:=oF hi5
  refine Wj<|Ws<|zu2 ?_
  refine Wf rfl rfl ?_
  refine Wj<|Ws<|zu5 ?_
  refine Wf rfl (by(simp only[dnL]at *;omega)) ?_
  refine Wj<|zp5 ?_
  refine z1 ?_
  refine Wa 74 rfl (congrArg (fun z=>PV.val (Value.int .i64 z)) w1) ?_
  refine z2 ?_ (q:=(by(simp_all;done)))
  refine Wa 75 rfl (cM ap 1 (fun _=>rfl) (by omega)) ?_
  refine Wa 75 rfl ((show _=sq ap (s.drop (s.length-1)) by rw[List.take_length,Int.toNat_natCast];rfl)) ?_
  refine zs1 ?_
  refine zu1 ?_
  refine Ws<|zp2 ?_
  refine Wd rfl rfl (po (lO tG rfl) rfl rfl rfl) ?_
  refine Wn<|Wl<|jY 4 ?_
  show W _ _ _ _ _ _ _
  refine z8 ?_
  refine Wd rfl rfl (tV rfl rfl rfl (by decide) (by decide)) ?_
  refine zs1 ?_
  refine Ws<|Wt rfl rfl ?_
  refine Wj<|Wl<|zu2 ?_
  refine aa rfl ?_
  refine zy4 ?_
  refine Wa 85 rfl ((show _=PV.val (.int .i32 0) from rfl)) ?_
  refine Wv tG rfl rfl rfl (by simp only[List.length_drop];omega) (iN ap 1 (fun _=>rfl) 0 (by simp only[List.length_drop];omega)) ?_
  refine zy2 ?_
  refine Wa 88 rfl (bsL ap [_] rfl rfl) ?_
  refine Wd rfl rfl (ce (lO tG rfl) rfl (lO tG rfl) (lO tG rfl) rfl rfl (by exact⟨_,rfl⟩) (by exact⟨rfl,rfl,al _ 1 (fun _=>rfl) _,bF _ (fun _=>rfl) _⟩) (by rfl) (by((simp_all;done))) (by((simp_all;done)))) ?_
  refine Wa 89 rfl (TQ ap _) ?_
  refine zs1 ?_
  show W _ _ _ _ _ _ _
  refine z8 ?_
  refine Wd rfl rfl (tV rfl rfl rfl (by decide) (by decide)) ?_
  refine zs1 ?_
  refine Ws<|Wt rfl rfl ?_
  refine Wj<|Wl<|zu2 ?_
  refine aa rfl ?_
  refine zy4 ?_
  refine Wa 85 rfl ((show _=PV.val (.int .i32 0) from rfl)) ?_
  refine Wv tG rfl rfl rfl (by simp only[List.length_drop];omega) (iN ap 1 (fun _=>rfl) 0 (by simp only[List.length_drop];omega)) ?_
  refine zy2 ?_
  refine Wa 88 rfl (bsL ap [_] rfl rfl) ?_
  refine Wd rfl rfl (fw (lO tG rfl) rfl (lO tG rfl) (lO tG rfl) rfl rfl rfl rfl (by simp) (by exact⟨_,rfl⟩) (by exact⟨rfl,rfl,al _ 1 (fun _=>rfl) _,bF _ (fun _=>rfl) _⟩) (by((simp_all;done))) (by((simp_all;done)))) ?_
  refine Wa 89 rfl (cz ap) ?_
  refine zs1 ?_
  show W _ _ _ _ _ _ _
  refine z8 ?_
  refine Wd rfl rfl (pp rfl rfl rfl (by decide)) ?_
  refine zs1 ?_
  refine Ws<|Wf rfl rfl ?_
  refine bi ?_
  refine zp5 ?_
  refine zc rfl func237 ((qq s 1 _ limit hs (by omega) (by simp) hm) _) ?_
  refine zy5 ?_
  refine zs1 ?_
  refine zR ?_
  rw[CO,if_neg h0,if_neg h1];rfl
 have h0:s.length=0:=by(try simp only[dnL]at *);omega
 have w1:IntKind.i64.wrap ((s.length:Int)-1) = -1:=by((rw[bU];unfold wrap64;(try simp only[dnL]at *);omega))
 iterate 7 refine z6 ?_
 refine zs1 ?_
 refine Wf rfl rfl ?_
 refine Wj<|Ws<|zu2 ?_
 refine Wf rfl rfl ?_
 refine Wj<|Ws<|zu5 ?_
 refine Wt rfl (by(simp only[dnL]at *;omega)) ?_
 refine zu4 ?_
 refine zR ?_
 rw[CO,if_pos h0];rfl
def pR:List Str:=[[68,85,80],[68,82,79,80],[83,87,65,80],[79,86,69,82],[78,73,80],[84,85,67,75],[82,79,84],[45,82,79,84],[50,68,85,80],[50,68,82,79,80],[50,83,87,65,80],[50,79,86,69,82],[63,68,85,80],[80,73,67,75],[82,79,76,76],[68,69,80,84,72]]
def Fv(s:List Int)(limit:Int):CO s limit=dQ [63,68,85,80] s limit:=by
 rw[dO (tk:=1) (lv:=if xat (s.drop (s.length-1)) 0=0 then s.drop (s.length-1)else [xat (s.drop (s.length-1)) 0,xat (s.drop (s.length-1)) 0]) rfl rfl]
 unfold CO
 by_cases h0:s.length=0
 ·rw[if_pos h0,if_pos (show s.length<1 by omega)]
 rw[if_neg h0,if_neg (show ¬s.length<1 by omega)]
 have hx:xat (s.drop (s.length-1)) 0=s.getD (s.length-1) 0:=BG
 have hd:s.drop (s.length-1)=[s.getD (s.length-1) 0]:=by
  rw[List.drop_eq_getElem_cons (by omega),show s.length-1+1=s.length by omega,List.drop_length]
  simp[List.getD,List.getElem?_eq_getElem (show s.length-1<s.length by omega)]
 rw[hx,hd]
def F7(name:Str)(hn:name∈pR)(s:List Int)(limit:Int)(hs:s.length<=100000)(hm : -9223372036854775808<=limit/\limit<=9223372036854775807):ab prog 199 [str name,sq ap s,i64 limit] (BN (dQ name s limit)):=by
 simp only[pR,List.mem_cons,List.not_mem_nil,or_false]at hn
 rcases hn with rfl|rfl|rfl|rfl|rfl|rfl|rfl|rfl|rfl|rfl|rfl|rfl|rfl|rfl|rfl|rfl
 ·rw[dO (tk:=1) (lv:=([97,97]:Str).map fun c=>(s.drop (s.length-1)).getD (c.toNat-97) 0) rfl rfl]
  exact iQ _ s limit 1 [97,97] hs hm (by decide) (by decide) (by decide) (by decide) rfl (by decide) (by decide) (by decide)
 ·rw[dO (tk:=1) (lv:=([]:Str).map fun c=>(s.drop (s.length-1)).getD (c.toNat-97) 0) rfl rfl]
  exact iQ _ s limit 1 [] hs hm (by decide) (by decide) (by decide) (by decide) rfl (by decide) (by decide) (by decide)
 ·rw[dO (tk:=2) (lv:=([98,97]:Str).map fun c=>(s.drop (s.length-2)).getD (c.toNat-97) 0) rfl rfl]
  exact iQ _ s limit 2 [98,97] hs hm (by decide) (by decide) (by decide) (by decide) rfl (by decide) (by decide) (by decide)
 ·rw[dO (tk:=2) (lv:=([97,98,97]:Str).map fun c=>(s.drop (s.length-2)).getD (c.toNat-97) 0) rfl rfl]
  exact iQ _ s limit 2 [97,98,97] hs hm (by decide) (by decide) (by decide) (by decide) rfl (by decide) (by decide) (by decide)
 ·rw[dO (tk:=2) (lv:=([98]:Str).map fun c=>(s.drop (s.length-2)).getD (c.toNat-97) 0) rfl rfl]
  exact iQ _ s limit 2 [98] hs hm (by decide) (by decide) (by decide) (by decide) rfl (by decide) (by decide) (by decide)
 ·rw[dO (tk:=2) (lv:=([98,97,98]:Str).map fun c=>(s.drop (s.length-2)).getD (c.toNat-97) 0) rfl rfl]
  exact iQ _ s limit 2 [98,97,98] hs hm (by decide) (by decide) (by decide) (by decide) rfl (by decide) (by decide) (by decide)
 ·rw[dO (tk:=3) (lv:=([98,99,97]:Str).map fun c=>(s.drop (s.length-3)).getD (c.toNat-97) 0) rfl rfl]
  exact iQ _ s limit 3 [98,99,97] hs hm (by decide) (by decide) (by decide) (by decide) rfl (by decide) (by decide) (by decide)
 ·rw[dO (tk:=3) (lv:=([99,97,98]:Str).map fun c=>(s.drop (s.length-3)).getD (c.toNat-97) 0) rfl rfl]
  exact iQ _ s limit 3 [99,97,98] hs hm (by decide) (by decide) (by decide) (by decide) rfl (by decide) (by decide) (by decide)
 ·rw[dO (tk:=2) (lv:=([97,98,97,98]:Str).map fun c=>(s.drop (s.length-2)).getD (c.toNat-97) 0) rfl rfl]
  exact iQ _ s limit 2 [97,98,97,98] hs hm (by decide) (by decide) (by decide) (by decide) rfl (by decide) (by decide) (by decide)
 ·rw[dO (tk:=2) (lv:=([]:Str).map fun c=>(s.drop (s.length-2)).getD (c.toNat-97) 0) rfl rfl]
  exact iQ _ s limit 2 [] hs hm (by decide) (by decide) (by decide) (by decide) rfl (by decide) (by decide) (by decide)
 ·rw[dO (tk:=4) (lv:=([99,100,97,98]:Str).map fun c=>(s.drop (s.length-4)).getD (c.toNat-97) 0) rfl rfl]
  exact iQ _ s limit 4 [99,100,97,98] hs hm (by decide) (by decide) (by decide) (by decide) rfl (by decide) (by decide) (by decide)
 ·rw[dO (tk:=4) (lv:=([97,98,99,100,97,98]:Str).map fun c=>(s.drop (s.length-4)).getD (c.toNat-97) 0) rfl rfl]
  exact iQ _ s limit 4 [97,98,99,100,97,98] hs hm (by decide) (by decide) (by decide) (by decide) rfl (by decide) (by decide) (by decide)
 ·rw[<-Fv];exact QR s limit hs hm
 ·rw[<-wL (name:=[80,73,67,75]) (roll:=false) rfl (fun _ _=>rfl)];exact QU s limit hs hm
 ·rw[<-wL (name:=[82,79,76,76]) (roll:=true) rfl (fun _ _=>rfl)];exact Rf s limit hs hm
 exact N0 s limit hs hm
def tU(n:Int):ab prog 165 [i64 n] (boo (decide (23<=n/\n<=129))):=by
 refine zY func165 fun B=>?_
 refine zu1 ?_
 refine zp3 ?_
 refine Wb 5 rfl (fun hg1=>?_) (fun hg1=>?_)
 ·have h0:23<=n:=oT hg1
  refine zs4 ?_
  refine zR ?_
  exact congrArg boo (by rw[Bool.eq_iff_iff,decide_eq_true_eq,decide_eq_true_eq];omega)
 have h0:¬23<=n:=oF hg1
 iterate 2 refine z6 ?_
 refine zs2 ?_
 refine zR ?_
 exact congrArg boo (decide_eq_false (by omega)).symm
def aG9(name:Str)(x:List Int)(hx:XOk 2 x):ab prog 241 ([sq ap x]++[.row [str name]]) (tLv ([(mi name (xat x 0) (xat x 1)).1],(mi name (xat x 0) (xat x 1)).2.2)):=by
 have hl:=hx.len
 refine zY func241 fun B=>?_
 refine zu2 ?_
 refine Ws<|ax [1,0,0,1,0,0,1,0,0,0,0,0,0,0,0] [0,1,2,3,4,5,6,7,8,9,10,11,12,13,14] mG rfl (by kernel_rfl) ?_
 refine z5 ?_
 refine z3 ?_
 refine z9i ?_
 refine z5 ?_
 refine z3 ?_
 refine z9i ?_
 refine z5 ?_
 refine Xc rfl rfl rfl rfl (fun _=>dC rfl func242 rfl rfl ((XJ name _ _ (hx.fit 1)) _)) ?_
 iterate 7 refine z3 ?_
 refine aQ ?_
 refine zp2 ?_
 refine Wa 21 rfl (bsL ap [_] rfl rfl) ?_
 refine zs3 ?_
 refine zR ?_
 rfl
def aH5(name:Str)(x:List Int)(hx:XOk 1 x):ab prog 243 ([sq ap x]++[.row [str name]]) (tLv ([(wI name (xat x 0)).1],0)):=by
 have hl:=hx.len
 refine zY func243 fun B=>?_
 refine zu2 ?_
 refine Ws<|ax [1,0,0,1,0,0,0,0,0,0] [0,1,2,3,4,5,6,7,8,9] mG rfl (by kernel_rfl) ?_
 refine z5 ?_
 refine z3 ?_
 refine z9i ?_
 refine z5 ?_
 refine Xc rfl rfl rfl rfl (fun _=>dC rfl func244 rfl rfl ((Ln name _ (hx.fit 0)) _)) ?_
 iterate 5 refine z3 ?_
 refine aQ ?_
 refine zp2 ?_
 refine Wa 16 rfl (bsL ap [_] rfl rfl) ?_
 refine zc rfl func245 ((lV _) _) ?_
 refine zs4 ?_
 refine zR ?_
 rfl
def NT(n:Int)(name:Str)(hn:n<=58):ab prog 200 [i64 n,str name] (bp 2 271 [.row [fnP 241 [.row [str name]]]]):=by
 refine zY func200 fun B=>?_
 refine zp1 ?_
 refine bR 3 _ rfl rfl rfl ?_
 refine zs1 ?_
 refine Ws<|Wl<|zu3 ?_
 refine Wt rfl (by exact decide_eq_true hn) ?_
 refine zp1 ?_
 refine zc rfl func240 ((jJ 2 241 [.row [str name]] (by simp)) _) ?_
 refine zs1 ?_
 refine zR ?_
 rfl
def Od(n:Int)(name:Str)(h0:58<n)(hn:n<=72):ab prog 200 [i64 n,str name] (bp 1 271 [.row [fnP 243 [.row [str name]]]]):=by
 refine zY func200 fun B=>?_
 refine zp1 ?_
 refine bR 3 _ rfl rfl rfl ?_
 refine zs1 ?_
 refine Ws<|Wl<|zu3 ?_
 refine Wf rfl (by exact decide_eq_false (by omega)) ?_
 refine zu3 ?_
 refine Wt rfl (by exact decide_eq_true hn) ?_
 refine zp1 ?_
 refine zc rfl func240 ((jJ 1 243 [.row [str name]] (by simp)) _) ?_
 refine zs1 ?_
 refine zR ?_
 rfl
def doR(v:VVm)(k:Nat)(r:VVm×List Int×Int):VVm×Int :=
 if v.d.length<k then(v,-4)else if r.2.2≠0 then(v,r.2.2)else
 if v.conf.data<((v.d.length-k+r.2.1.length:Nat):Int)then(v,-3)else({r.1 with d:=v.d.take (v.d.length-k)++r.2.1},0)
def ai3(v:VVm)(n:Int)(hn:¬(23<=n/\n<=129)):ab prog 166 [eVm v,i64 n] (tVm (v,-24)):=by
 refine zY func166 fun B=>?_
 refine zu3 ?_
 refine Ws<|zp1 ?_
 refine zc rfl func165 ((tU n) _) ?_
 refine zs1 ?_
 refine Wt rfl (by rw[decide_eq_false hn];rfl) ?_
 refine zu3 ?_
 refine zR ?_
 rfl
def xH:ao.length=130:=lI
def KB(v:VVm)(n:Int)(h0:23<=n)(h1:n<=38)(hs:ao.getD n.toNat []∈pR)(hd:v.d.length<=100000)(hm:ae v.conf.data):
  ab prog 166 [eVm v,i64 n] (tVm ({v with d:=(dQ (ao.getD n.toNat []) v.d v.conf.data).1},(dQ (ao.getD n.toNat []) v.d v.conf.data).2.2)):=by
 have hN:=xH
 refine zY func166 fun B=>?_
 refine zu3 ?_
 refine Ws<|zp1 ?_
 refine zc rfl func165 ((tU n) _) ?_
 refine zs1 ?_
 refine Wf rfl (by rw[decide_eq_true ⟨h0,by omega⟩];rfl) ?_
 refine Wj<|z8 ?_
 refine zc rfl func98 ((oo) _) ?_
 refine z1 ?_
 refine Wv tG rfl rfl rfl (by omega) (iR gR 1 (fun _=>rfl) [] (by omega)) ?_
 refine zs2 ?_
 refine zu3 ?_
 refine Ws<|zu2 ?_
 refine Wt rfl (by exact decide_eq_true h1) ?_
 refine zp5 ?_
 refine z1 ?_
 refine zc rfl func199 ((F7 _ hs _ _ hd hm) _) ?_
 refine zy5 ?_
 refine zs2 ?_
 refine zu3 ?_
 refine zu4 ?_
 refine zR ?_
 rfl
def aZ(v:VVm)(n:Int)(k:Nat)(f:FuncId)(cap:List PV)(r:VVm×List Int×Int)(h0:39<=n)(h1:n<=129)(hdl:v.d.length<=100000)(hm:ae v.conf.data)(hk:k<=10)(hc:aw cap)
  (hf:ab prog 200 [i64 n,str (ao.getD n.toNat [])] (bp k f cap)) (hr:r.2.1.length<=10)
  (hd:k<=v.d.length->∀(H:List Ob) (i:Nat),H[i]?=some (.cells (cVm v) 37)->ou prog f (.ptr i 0::([sq ap (v.d.drop (v.d.length-k))]++cap)) H (tLv r.2) (H.set i (.cells (cVm r.1) 37))) :
  ab prog 166 [eVm v,i64 n] (tVm (doR v k r)):=by
 have hN:=xH
 have ht:(v.d.take (v.d.length-k)).length=v.d.length-k:=by rw[List.length_take];omega
 refine zY func166 fun B=>?_
 refine zu3 ?_
 refine Ws<|zp1 ?_
 refine zc rfl func165 ((tU n) _) ?_
 refine zs1 ?_
 refine Wf rfl (by rw[decide_eq_true ⟨by omega,h1⟩];rfl) ?_
 refine Wj<|z8 ?_
 refine zc rfl func98 ((oo) _) ?_
 refine z1 ?_
 refine Wv tG rfl rfl rfl (by omega) (iR gR 1 (fun _=>rfl) [] (by omega)) ?_
 refine zs2 ?_
 refine zu3 ?_
 refine Ws<|zu2 ?_
 refine Wf rfl (by exact decide_eq_false (by omega)) ?_
 refine Wj<|zp2 ?_
 refine zc rfl func200 ((hf) _) ?_
 refine zs2 ?_
 refine Ws<|zp5 ?_
 refine zs1 ?_
 refine Wi rfl (fun hi3=>?_) (fun hi3=>?_)
 ·have q0:v.d.length<k:=by(try simp only[dnL]at *);omega
  refine zu3 ?_
  refine zR ?_
  rw[doR,if_pos q0];rfl
 have q0:¬v.d.length<k:=by(try simp only[dnL]at *);omega
 have w1:IntKind.i64.wrap ((v.d.length:Int)-(k:Int))=((v.d.length-k:Nat):Int):=by((rw[bU];unfold wrap64;(try simp only[dnL]at *);omega))
 have w2:IntKind.i64.wrap (((v.d.length-k:Nat):Int)+(r.2.1.length:Int))=((v.d.length-k+r.2.1.length:Nat):Int):=by((rw[bU];unfold wrap64;(try simp only[dnL]at *);omega))
 refine Wj<|zp5 ?_
 refine z1 ?_
 refine Wa 56 rfl (congrArg (fun z=>PV.val (Value.int .i64 z)) w1) ?_
 refine zs1 ?_
 refine Ws<|V.ax [0,10,0,4,0,0,0,9,0,0,0,0,0] [0,1,2,3,4,5,6,7,8,9,10,11,12] mG rfl (by kernel_rfl) ?_
 refine V.z3 ?_
 refine V.Gw 3 rfl rfl rfl rfl rfl (fun H2 h2=>bD (lO tG rfl) rfl rfl h2 rfl) ?_
 refine V.z3 ?_
 refine V.Gw 0 rfl rfl rfl rfl rfl (fun H2 h2=>bD (lO tG rfl) rfl rfl h2 rfl) ?_
 refine V.z3 ?_
 refine V.z4 ?_ (q:=(by(simp_all;done)))
 refine V.Xa 63 rfl (cM ap 1 (fun _=>rfl) (by omega)) ?_
 refine V.Xa 63 rfl ((show _=sq ap (v.d.drop (v.d.length-k)) by rw[List.take_length,Int.toNat_natCast];rfl)) ?_
 refine V.Xc rfl rfl rfl rfl (fun _=>dC rfl func201 rfl rfl ((I3 _ (by simp;omega)) _)) ?_
 refine V.Z8 2 rfl rfl rfl rfl (fp rfl rfl (hd (by omega) _ 2 rfl)) rfl ?_
 iterate 5 refine V.z3 ?_
 refine V.aQ ?_
 refine Ws<|zu2 ?_
 refine Wi rfl (fun hi4=>?_) (fun hi4=>?_)
 ·have q1:r.2.2≠0:=bne_iff_ne.1 hi4
  refine zu4 ?_
  refine zR ?_
  rw[doR,if_neg q0,if_pos q1];rfl
 have q1:¬r.2.2≠0:=fun h=>h (bne_eq_false_iff_eq.1 hi4)
 refine Wj<|Ws<|zp4 ?_
 refine Wa 75 rfl (congrArg (fun z=>PV.val (Value.int .i64 z)) w2) ?_
 refine zs4 ?_
 refine Wi rfl (fun hi5=>?_) (fun hi5=>?_)
 ·have q2:v.conf.data<((v.d.length-k+r.2.1.length:Nat):Int):=oT hi5
  refine zu3 ?_
  refine zR ?_
  rw[doR,if_neg q0,if_neg q1,if_pos q2];rfl
 have q2:¬v.conf.data<((v.d.length-k+r.2.1.length:Nat):Int):=oF hi5
 refine Wj<|zp3 ?_
 refine z2 ?_ (q:=(by(simp_all;done)))
 refine Wa 84 rfl (cM ap 1 (fun _=>rfl) (by omega)) ?_
 refine Wa 84 rfl ((show _=sq ap (v.d.take (v.d.length-k)) by rw[Int.toNat_natCast,List.drop_zero];rfl)) ?_
 refine zy2 ?_
 refine Wa 86 rfl (bsL B8 [_,_] rfl rfl) ?_
 refine zc rfl func202 ((L4 _ _ (by rw[ht];omega) (by omega)) _) ?_
 refine zs2 ?_
 refine zu3 ?_
 refine zR ?_
 rw[doR,if_neg q0,if_neg q1,if_neg q2];rfl
structure dJ (v:VVm):Prop where
 mem:da v.mem
 old:v.mem.old.length+1<=1000000
 here:iy v.mem v.here
 out2:0<=v.conf.out/\v.conf.out<=900000
 out:v.out.length<=1000000
 pic:v.pic.b.length<=1000000
 req:v.req.length<=100000
 hand:v.hand.length<=1000000
 d:v.d.length<=50000
 fit:∀a∈v.d,ae a
 data:ae v.conf.data
def dJ.out1{v:VVm}(h:dJ v):0<=v.conf.out/\v.conf.out<=1000000:=by have:=h.out2;omega
def dJ.x{v:VVm}(h:dJ v){k:Nat}(hk:k<=v.d.length):XOk k (v.d.drop (v.d.length-k)) :=
 ⟨by rw[List.length_drop];omega,fun a ha=>h.fit a (List.mem_of_mem_drop ha)⟩
def Fo(m:bn)(a n:Int):(dU m a n).1.length<=m.b.length:=by
 unfold dU
 split
 ·simp only[List.length_take,List.length_drop];omega
 simp
def NI(b:Nat):∀k u,(mV b k u).length<=k+1:=by
 intro k
 induction k with
 | zero=>intro u;simp[mV]
 | succ k ih=>intro u;unfold mV;split<;>simp;have:=ih (u/b);omega
def su(u b:Nat):(ef u b).length<=900:=by
 unfold ef
 have:=NI b 64 u
 simp only[List.length_reverse,List.length_map]
 omega
def Cn(n b:Int):(dh n b).1.length<=1000:=by
 unfold dh
 split
 ·simp only
  split
  ·have:=su (U n) b.toNat;omega
  have:=su (U (wrap64 (-n))) b.toNat;simp only[List.length_cons];omega
 simp
def aH{v:VVm}{n:Int}(h0:39<=n)(h1:n<=129):doS v n=doR v (bm n (ao.getD n.toNat [])) (bP v n (ao.getD n.toNat []) (v.d.drop (v.d.length-bm n (ao.getD n.toNat [])))):=by
 unfold doS doR
 rw[if_neg (by omega)]
 simp only
 rw[if_neg (by omega)]
def MX{v:VVm}{k:Nat}{r r':VVm×List Int×Int}(h1:r'.2.2=r.2.2)(h2:r.2.2=0->r'=r):doR v k r'=doR v k r:=by
 by_cases h:r.2.2=0
 ·rw[h2 h]
 unfold doR
 rw[h1]
 simp only[h,ne_eq,not_false_eq_true,if_true]
def Ox(v:VVm)(x:List Int):(v,bL v x).2.2=(wo v x).2.2:=by
 unfold bL wo
 split<;>rfl
def Vt(v:VVm)(x:List Int)(h:(wo v x).2.2=0):(v,bL v x)=wo v x:=by
 unfold bL wo at *
 split at h
 ·cases h
 rename_i hc;rw[if_neg hc,if_neg hc]
def Be(n b:Int):(dN n b).1.length<=1000:=by
 unfold dN
 split
 ·have:=su (U n) b.toNat;simp only;omega
 simp
def ak9(v:VVm)(hv:dJ v)(n:Int)(h0:39<=n)(h1:n<=58):ab prog 166 [eVm v,i64 n] (tVm (doS v n)):=by
 have hk:bm n (ao.getD n.toNat [])=2:=by unfold bm;rw[if_pos h1]
 rw[aH h0 (by omega),hk]
 have e:∀x,bP v n (ao.getD n.toNat []) x=(v,[(mi (ao.getD n.toNat []) (xat x 0) (xat x 1)).1],(mi (ao.getD n.toNat []) (xat x 0) (xat x 1)).2.2):=fun x=>by unfold bP;rw[if_pos h1]
 rw[e]
 exact aZ v n 2 271 _ _ h0 (by omega) (by have:=hv.d;omega) hv.data (by omega) (by simp) (NT n _ h1) (by simp) (fun hk H i hi=>⟨⟨_,func271,rfl,rfl⟩,lM 241 [.row [str (ao.getD n.toNat [])]] v _ _ (by simp) (fun H=>⟨⟨_,func241,rfl,rfl⟩,aG9 _ _ (hv.x hk) H⟩) H i hi⟩)
def ac6(v:VVm)(hv:dJ v)(n:Int)(h0:58<n)(h1:n<=72):ab prog 166 [eVm v,i64 n] (tVm (doS v n)):=by
 have hk:bm n (ao.getD n.toNat [])=1:=by unfold bm;rw[if_neg (by omega),if_pos h1]
 rw[aH (by omega) (by omega),hk]
 have e:∀x,bP v n (ao.getD n.toNat []) x=(v,[(wI (ao.getD n.toNat []) (xat x 0)).1],0):=fun x=>by unfold bP;rw[if_neg (by omega),if_pos h1]
 rw[e]
 exact aZ v n 1 271 _ _ (by omega) (by omega) (by have:=hv.d;omega) hv.data (by omega) (by simp) (Od n _ h0 h1) (by simp) (fun hk H i hi=>⟨⟨_,func271,rfl,rfl⟩,lM 243 [.row [str (ao.getD n.toNat [])]] v _ _ (by simp) (fun H=>⟨⟨_,func243,rfl,rfl⟩,aH5 _ _ (hv.x hk) H⟩) H i hi⟩)
def aw5(v:VVm)(x:List Int):bP v 73 [47,77,79,68] x=(v,bC x):=by kernel_rfl
def av0(v:VVm)(hv:dJ v):ab prog 166 [eVm v,i64 73] (tVm (doS v 73)):=by
 have hk:bm 73 (ao.getD (73:Int).toNat [])=2:=by kernel_rfl
 have hn:ao.getD (73:Int).toNat []=[47,77,79,68]:=by kernel_rfl
 rw[aH (by decide) (by decide),hk,hn,aw5]
 refine aZ v 73 2 271 [.row [fnP 280 pw]] _ (by decide) (by decide) (by have:=hv.d;omega) hv.data (by decide) (by simp) (by rw[hn];exact jX 73 _ _ _ _ (by decide) (by simp)  rfl) (by(show List.length _<=_;simp[cb,bH,dy,fg,gg,gB,gh,bZ,bC,bh,dn,pUM,pM,dk,dq,dm,pSD,bB,bL])) (fun hk H i hi=>?_)
 have hx:=hv.x hk
 generalize v.d.drop (v.d.length-2)=x at hx ⊢
 exact⟨⟨_,func271,rfl,rfl⟩,lM 280 pw v x (v,bC x).2 (by simp) (fun H=>⟨⟨_,func280,rfl,rfl⟩,aG0 x hx H⟩) H i hi⟩
def ap4(v:VVm)(x:List Int):bP v 75 [42,47,77,79,68] x=(v,bh x):=by kernel_rfl
def aw7(v:VVm)(hv:dJ v):ab prog 166 [eVm v,i64 75] (tVm (doS v 75)):=by
 have hk:bm 75 (ao.getD (75:Int).toNat [])=3:=by kernel_rfl
 have hn:ao.getD (75:Int).toNat []=[42,47,77,79,68]:=by kernel_rfl
 rw[aH (by decide) (by decide),hk,hn,ap4]
 refine aZ v 75 3 271 [.row [fnP 281 Gs]] _ (by decide) (by decide) (by have:=hv.d;omega) hv.data (by decide) (by simp) (by rw[hn];exact jX 75 _ _ _ _ (by decide) (by simp)  rfl) (by(show List.length _<=_;simp[cb,bH,dy,fg,gg,gB,gh,bZ,bC,bh,dn,pUM,pM,dk,dq,dm,pSD,bB,bL])) (fun hk H i hi=>?_)
 have hx:=hv.x hk
 generalize v.d.drop (v.d.length-3)=x at hx ⊢
 exact⟨⟨_,func271,rfl,rfl⟩,lM 281 Gs v x (v,bh x).2 (by simp) (fun H=>⟨⟨_,func281,rfl,rfl⟩,aG7 x hx H⟩) H i hi⟩
def ay5(v:VVm)(x:List Int):bP v 74 [42,47] x=(v,dn x):=by kernel_rfl
def ax0(v:VVm)(hv:dJ v):ab prog 166 [eVm v,i64 74] (tVm (doS v 74)):=by
 have hk:bm 74 (ao.getD (74:Int).toNat [])=3:=by kernel_rfl
 have hn:ao.getD (74:Int).toNat []=[42,47]:=by kernel_rfl
 rw[aH (by decide) (by decide),hk,hn,ay5]
 refine aZ v 74 3 271 [.row [fnP 282 Sl]] _ (by decide) (by decide) (by have:=hv.d;omega) hv.data (by decide) (by simp) (by rw[hn];exact jX 74 _ _ _ _ (by decide) (by simp)  rfl) (by(show List.length _<=_;simp[cb,bH,dy,fg,gg,gB,gh,bZ,bC,bh,dn,pUM,pM,dk,dq,dm,pSD,bB,bL])) (fun hk H i hi=>?_)
 have hx:=hv.x hk
 generalize v.d.drop (v.d.length-3)=x at hx ⊢
 exact⟨⟨_,func271,rfl,rfl⟩,lM 282 Sl v x (v,dn x).2 (by simp) (fun H=>⟨⟨_,func282,rfl,rfl⟩,aF3 x hx H⟩) H i hi⟩
def av2(v:VVm)(x:List Int):bP v 76 [85,77,42] x=(v,pUM x):=by kernel_rfl
def aB6(v:VVm)(hv:dJ v):ab prog 166 [eVm v,i64 76] (tVm (doS v 76)):=by
 have hk:bm 76 (ao.getD (76:Int).toNat [])=2:=by kernel_rfl
 have hn:ao.getD (76:Int).toNat []=[85,77,42]:=by kernel_rfl
 rw[aH (by decide) (by decide),hk,hn,av2]
 refine aZ v 76 2 271 [.row [fnP 283 []]] _ (by decide) (by decide) (by have:=hv.d;omega) hv.data (by decide) (by simp) (by rw[hn];exact jX 76 _ _ _ _ (by decide) (by simp)  rfl) (by(show List.length _<=_;simp[cb,bH,dy,fg,gg,gB,gh,bZ,bC,bh,dn,pUM,pM,dk,dq,dm,pSD,bB,bL])) (fun hk H i hi=>?_)
 have hx:=hv.x hk
 generalize v.d.drop (v.d.length-2)=x at hx ⊢
 exact⟨⟨_,func271,rfl,rfl⟩,lM 283 [] v x (v,pUM x).2 (by simp) (fun H=>⟨⟨_,func283,rfl,rfl⟩,aE2 x hx H⟩) H i hi⟩
def ap9(v:VVm)(x:List Int):bP v 78 [77,42] x=(v,pM x):=by kernel_rfl
def as9(v:VVm)(hv:dJ v):ab prog 166 [eVm v,i64 78] (tVm (doS v 78)):=by
 have hk:bm 78 (ao.getD (78:Int).toNat [])=2:=by kernel_rfl
 have hn:ao.getD (78:Int).toNat []=[77,42]:=by kernel_rfl
 rw[aH (by decide) (by decide),hk,hn,ap9]
 refine aZ v 78 2 271 [.row [fnP 285 []]] _ (by decide) (by decide) (by have:=hv.d;omega) hv.data (by decide) (by simp) (by rw[hn];exact jX 78 _ _ _ _ (by decide) (by simp)  rfl) (by(show List.length _<=_;simp[cb,bH,dy,fg,gg,gB,gh,bZ,bC,bh,dn,pUM,pM,dk,dq,dm,pSD,bB,bL])) (fun hk H i hi=>?_)
 have hx:=hv.x hk
 generalize v.d.drop (v.d.length-2)=x at hx ⊢
 exact⟨⟨_,func271,rfl,rfl⟩,lM 285 [] v x (v,pM x).2 (by simp) (fun H=>⟨⟨_,func285,rfl,rfl⟩,aE6 x hx H⟩) H i hi⟩
def aq3(v:VVm)(x:List Int):bP v 77 [85,77,47,77,79,68] x=(v,dk x):=by kernel_rfl
def ay7(v:VVm)(hv:dJ v):ab prog 166 [eVm v,i64 77] (tVm (doS v 77)):=by
 have hk:bm 77 (ao.getD (77:Int).toNat [])=3:=by kernel_rfl
 have hn:ao.getD (77:Int).toNat []=[85,77,47,77,79,68]:=by kernel_rfl
 rw[aH (by decide) (by decide),hk,hn,aq3]
 refine aZ v 77 3 271 [.row [fnP 286 pw]] _ (by decide) (by decide) (by have:=hv.d;omega) hv.data (by decide) (by simp) (by rw[hn];exact jX 77 _ _ _ _ (by decide) (by simp)  rfl) (by(show List.length _<=_;simp[cb,bH,dy,fg,gg,gB,gh,bZ,bC,bh,dn,pUM,pM,dk,dq,dm,pSD,bB,bL])) (fun hk H i hi=>?_)
 have hx:=hv.x hk
 generalize v.d.drop (v.d.length-3)=x at hx ⊢
 exact⟨⟨_,func271,rfl,rfl⟩,lM 286 pw v x (v,dk x).2 (by simp) (fun H=>⟨⟨_,func286,rfl,rfl⟩,aF5 x hx H⟩) H i hi⟩
def au5(v:VVm)(x:List Int):bP v 79 [83,77,47,82,69,77] x=(v,dq x):=by kernel_rfl
def ax1(v:VVm)(hv:dJ v):ab prog 166 [eVm v,i64 79] (tVm (doS v 79)):=by
 have hk:bm 79 (ao.getD (79:Int).toNat [])=3:=by kernel_rfl
 have hn:ao.getD (79:Int).toNat []=[83,77,47,82,69,77]:=by kernel_rfl
 rw[aH (by decide) (by decide),hk,hn,au5]
 refine aZ v 79 3 271 [.row [fnP 288 pw]] _ (by decide) (by decide) (by have:=hv.d;omega) hv.data (by decide) (by simp) (by rw[hn];exact jX 79 _ _ _ _ (by decide) (by simp)  rfl) (by(show List.length _<=_;simp[cb,bH,dy,fg,gg,gB,gh,bZ,bC,bh,dn,pUM,pM,dk,dq,dm,pSD,bB,bL])) (fun hk H i hi=>?_)
 have hx:=hv.x hk
 generalize v.d.drop (v.d.length-3)=x at hx ⊢
 exact⟨⟨_,func271,rfl,rfl⟩,lM 288 pw v x (v,dq x).2 (by simp) (fun H=>⟨⟨_,func288,rfl,rfl⟩,aH1 x hx H⟩) H i hi⟩
def aB4(v:VVm)(x:List Int):bP v 80 [70,77,47,77,79,68] x=(v,dm x):=by kernel_rfl
def au4(v:VVm)(hv:dJ v):ab prog 166 [eVm v,i64 80] (tVm (doS v 80)):=by
 have hk:bm 80 (ao.getD (80:Int).toNat [])=3:=by kernel_rfl
 have hn:ao.getD (80:Int).toNat []=[70,77,47,77,79,68]:=by kernel_rfl
 rw[aH (by decide) (by decide),hk,hn,aB4]
 refine aZ v 80 3 271 [.row [fnP 290 pw]] _ (by decide) (by decide) (by have:=hv.d;omega) hv.data (by decide) (by simp) (by rw[hn];exact jX 80 _ _ _ _ (by decide) (by simp)  rfl) (by(show List.length _<=_;simp[cb,bH,dy,fg,gg,gB,gh,bZ,bC,bh,dn,pUM,pM,dk,dq,dm,pSD,bB,bL])) (fun hk H i hi=>?_)
 have hx:=hv.x hk
 generalize v.d.drop (v.d.length-3)=x at hx ⊢
 exact⟨⟨_,func271,rfl,rfl⟩,lM 290 pw v x (v,dm x).2 (by simp) (fun H=>⟨⟨_,func290,rfl,rfl⟩,aB8 x hx H⟩) H i hi⟩
def ar4(v:VVm)(x:List Int):bP v 81 [83,62,68] x=(v,pSD x):=by kernel_rfl
def az8(v:VVm)(hv:dJ v):ab prog 166 [eVm v,i64 81] (tVm (doS v 81)):=by
 have hk:bm 81 (ao.getD (81:Int).toNat [])=1:=by kernel_rfl
 have hn:ao.getD (81:Int).toNat []=[83,62,68]:=by kernel_rfl
 rw[aH (by decide) (by decide),hk,hn,ar4]
 refine aZ v 81 1 271 [.row [fnP 291 []]] _ (by decide) (by decide) (by have:=hv.d;omega) hv.data (by decide) (by simp) (by rw[hn];exact jX 81 _ _ _ _ (by decide) (by simp)  rfl) (by(show List.length _<=_;simp[cb,bH,dy,fg,gg,gB,gh,bZ,bC,bh,dn,pUM,pM,dk,dq,dm,pSD,bB,bL])) (fun hk H i hi=>?_)
 have hx:=hv.x hk
 generalize v.d.drop (v.d.length-1)=x at hx ⊢
 exact⟨⟨_,func271,rfl,rfl⟩,lM 291 [] v x (v,pSD x).2 (by simp) (fun H=>⟨⟨_,func291,rfl,rfl⟩,aC5 x hx H⟩) H i hi⟩
def av9(v:VVm)(x:List Int):bP v 82 [87,73,84,72,73,78] x=(v,bB x):=by kernel_rfl
def aB0(v:VVm)(hv:dJ v):ab prog 166 [eVm v,i64 82] (tVm (doS v 82)):=by
 have hk:bm 82 (ao.getD (82:Int).toNat [])=3:=by kernel_rfl
 have hn:ao.getD (82:Int).toNat []=[87,73,84,72,73,78]:=by kernel_rfl
 rw[aH (by decide) (by decide),hk,hn,av9]
 refine aZ v 82 3 271 [.row [fnP 293 []]] _ (by decide) (by decide) (by have:=hv.d;omega) hv.data (by decide) (by simp) (by rw[hn];exact jX 82 _ _ _ _ (by decide) (by simp)  rfl) (by(show List.length _<=_;simp[cb,bH,dy,fg,gg,gB,gh,bZ,bC,bh,dn,pUM,pM,dk,dq,dm,pSD,bB,bL])) (fun hk H i hi=>?_)
 have hx:=hv.x hk
 generalize v.d.drop (v.d.length-3)=x at hx ⊢
 exact⟨⟨_,func271,rfl,rfl⟩,lM 293 [] v x (v,bB x).2 (by simp) (fun H=>⟨⟨_,func293,rfl,rfl⟩,ay4 x hx H⟩) H i hi⟩
def aB7(v:VVm)(x:List Int):bP v 83 [64] x=cb v x:=by kernel_rfl
def aA9(v:VVm)(hv:dJ v):ab prog 166 [eVm v,i64 83] (tVm (doS v 83)):=by
 have hk:bm 83 (ao.getD (83:Int).toNat [])=1:=by kernel_rfl
 have hn:ao.getD (83:Int).toNat []=[64]:=by kernel_rfl
 rw[aH (by decide) (by decide),hk,hn,aB7]
 refine aZ v 83 1 367 [.row [fnP 39 []]] _ (by decide) (by decide) (by have:=hv.d;omega) hv.data (by decide) (by simp) (by rw[hn];exact j3 83 _ _ _ _ (by decide) (by simp) rfl rfl) (by(show List.length _<=_;simp[cb,bH,dy,fg,gg,gB,gh,bZ,bC,bh,dn,pUM,pM,dk,dq,dm,pSD,bB,bL])) (fun hk H i hi=>?_)
 have hx:=hv.x hk
 generalize v.d.drop (v.d.length-1)=x at hx ⊢
 exact⟨⟨_,func367,rfl,rfl⟩,xr 39 [] v x _ hx.len (by simp) (fun H=>⟨⟨_,func39,rfl,rfl⟩,(gH v.mem _ (gI hv.mem) (hx.fit 0)) H⟩) H i hi⟩
def aA1(v:VVm)(x:List Int):bP v 86 [67,64] x=bH v x:=by kernel_rfl
def aq0(v:VVm)(hv:dJ v):ab prog 166 [eVm v,i64 86] (tVm (doS v 86)):=by
 have hk:bm 86 (ao.getD (86:Int).toNat [])=1:=by kernel_rfl
 have hn:ao.getD (86:Int).toNat []=[67,64]:=by kernel_rfl
 rw[aH (by decide) (by decide),hk,hn,aA1]
 refine aZ v 86 1 367 [.row [fnP 296 []]] _ (by decide) (by decide) (by have:=hv.d;omega) hv.data (by decide) (by simp) (by rw[hn];exact j3 86 _ _ _ _ (by decide) (by simp) rfl rfl) (by(show List.length _<=_;simp[cb,bH,dy,fg,gg,gB,gh,bZ,bC,bh,dn,pUM,pM,dk,dq,dm,pSD,bB,bL])) (fun hk H i hi=>?_)
 have hx:=hv.x hk
 generalize v.d.drop (v.d.length-1)=x at hx ⊢
 exact⟨⟨_,func367,rfl,rfl⟩,xr 296 [] v x _ hx.len (by simp) (fun H=>⟨⟨_,func296,rfl,rfl⟩,(uw v.mem _ hv.mem (hx.fit 0)) H⟩) H i hi⟩
def ar5(v:VVm)(x:List Int):bP v 84 [33] x=dy v (ay v.mem (xat x 1) (xat x 0)):=by kernel_rfl
def ar6(v:VVm)(hv:dJ v):ab prog 166 [eVm v,i64 84] (tVm (doS v 84)):=by
 have hk:bm 84 (ao.getD (84:Int).toNat [])=2:=by kernel_rfl
 have hn:ao.getD (84:Int).toNat []=[33]:=by kernel_rfl
 rw[aH (by decide) (by decide),hk,hn,ar5]
 refine aZ v 84 2 368 [.row [fnP 298 []]] _ (by decide) (by decide) (by have:=hv.d;omega) hv.data (by decide) (by simp) (by rw[hn];exact j3 84 _ _ _ _ (by decide) (by simp) rfl rfl) (by(show List.length _<=_;simp[cb,bH,dy,fg,gg,gB,gh,bZ,bC,bh,dn,pUM,pM,dk,dq,dm,pSD,bB,bL])) (fun hk H i hi=>?_)
 have hx:=hv.x hk
 generalize v.d.drop (v.d.length-2)=x at hx ⊢
 exact⟨⟨_,func368,rfl,rfl⟩,nX 298 [] v x _ (by simp) (fun H=>⟨⟨_,func298,rfl,rfl⟩,aH7 v x hv.mem hx H⟩) H i hi⟩
def aA8(v:VVm)(x:List Int):bP v 87 [67,33] x=dy v (nC v.mem (xat x 1) (xat x 0)):=by kernel_rfl
def aB5(v:VVm)(hv:dJ v):ab prog 166 [eVm v,i64 87] (tVm (doS v 87)):=by
 have hk:bm 87 (ao.getD (87:Int).toNat [])=2:=by kernel_rfl
 have hn:ao.getD (87:Int).toNat []=[67,33]:=by kernel_rfl
 rw[aH (by decide) (by decide),hk,hn,aA8]
 refine aZ v 87 2 368 [.row [fnP 299 []]] _ (by decide) (by decide) (by have:=hv.d;omega) hv.data (by decide) (by simp) (by rw[hn];exact j3 87 _ _ _ _ (by decide) (by simp) rfl rfl) (by(show List.length _<=_;simp[cb,bH,dy,fg,gg,gB,gh,bZ,bC,bh,dn,pUM,pM,dk,dq,dm,pSD,bB,bL])) (fun hk H i hi=>?_)
 have hx:=hv.x hk
 generalize v.d.drop (v.d.length-2)=x at hx ⊢
 exact⟨⟨_,func368,rfl,rfl⟩,nX 299 [] v x _ (by simp) (fun H=>⟨⟨_,func299,rfl,rfl⟩,aI9 v x hv.mem hx H⟩) H i hi⟩
def as1(v:VVm)(x:List Int):bP v 85 [43,33] x=dy v (se v x):=by kernel_rfl
def az1(v:VVm)(hv:dJ v):ab prog 166 [eVm v,i64 85] (tVm (doS v 85)):=by
 have hk:bm 85 (ao.getD (85:Int).toNat [])=2:=by kernel_rfl
 have hn:ao.getD (85:Int).toNat []=[43,33]:=by kernel_rfl
 rw[aH (by decide) (by decide),hk,hn,as1]
 refine aZ v 85 2 368 [.row [fnP 301 []]] _ (by decide) (by decide) (by have:=hv.d;omega) hv.data (by decide) (by simp) (by rw[hn];exact j3 85 _ _ _ _ (by decide) (by simp) rfl rfl) (by(show List.length _<=_;simp[cb,bH,dy,fg,gg,gB,gh,bZ,bC,bh,dn,pUM,pM,dk,dq,dm,pSD,bB,bL])) (fun hk H i hi=>?_)
 have hx:=hv.x hk
 generalize v.d.drop (v.d.length-2)=x at hx ⊢
 exact⟨⟨_,func368,rfl,rfl⟩,nX 301 [] v x _ (by simp) (fun H=>⟨⟨_,func301,rfl,rfl⟩,aF4 v x hv.mem hx H⟩) H i hi⟩
def ay2(v:VVm)(x:List Int):bP v 88 [50,64] x=lu v x:=by kernel_rfl
def aB2(v:VVm)(hv:dJ v):ab prog 166 [eVm v,i64 88] (tVm (doS v 88)):=by
 have hk:bm 88 (ao.getD (88:Int).toNat [])=1:=by kernel_rfl
 have hn:ao.getD (88:Int).toNat []=[50,64]:=by kernel_rfl
 rw[aH (by decide) (by decide),hk,hn,ay2]
 refine aZ v 88 1 302 [] _ (by decide) (by decide) (by have:=hv.d;omega) hv.data (by decide) (by simp) (by rw[hn];exact j3 88 _ _ _ _ (by decide) (by simp) rfl rfl) (by unfold lu;split<;>simp) (fun hk H i hi=>?_)
 have hx:=hv.x hk
 generalize v.d.drop (v.d.length-1)=x at hx ⊢
 exact⟨⟨_,func302,rfl,rfl⟩,aI2 v x hv.mem hx H i hi⟩
def aq5(v:VVm)(x:List Int):bP v 89 [50,33] x=dy v (oS v x):=by kernel_rfl
def aB9(v:VVm)(hv:dJ v):ab prog 166 [eVm v,i64 89] (tVm (doS v 89)):=by
 have hk:bm 89 (ao.getD (89:Int).toNat [])=3:=by kernel_rfl
 have hn:ao.getD (89:Int).toNat []=[50,33]:=by kernel_rfl
 rw[aH (by decide) (by decide),hk,hn,aq5]
 refine aZ v 89 3 368 [.row [fnP 303 []]] _ (by decide) (by decide) (by have:=hv.d;omega) hv.data (by decide) (by simp) (by rw[hn];exact j3 89 _ _ _ _ (by decide) (by simp) rfl rfl) (by(show List.length _<=_;simp[cb,bH,dy,fg,gg,gB,gh,bZ,bC,bh,dn,pUM,pM,dk,dq,dm,pSD,bB,bL])) (fun hk H i hi=>?_)
 have hx:=hv.x hk
 generalize v.d.drop (v.d.length-3)=x at hx ⊢
 exact⟨⟨_,func368,rfl,rfl⟩,nX 303 [] v x _ (by simp) (fun H=>⟨⟨_,func303,rfl,rfl⟩,aD6 v x hv.mem hv.old hx H⟩) H i hi⟩
def at2(v:VVm)(x:List Int):bP v 90 [70,73,76,76] x=dy v (nB v.mem (xat x 0) (xat x 1) (xat x 2)):=by kernel_rfl
def aw8(v:VVm)(hv:dJ v):ab prog 166 [eVm v,i64 90] (tVm (doS v 90)):=by
 have hk:bm 90 (ao.getD (90:Int).toNat [])=3:=by kernel_rfl
 have hn:ao.getD (90:Int).toNat []=[70,73,76,76]:=by kernel_rfl
 rw[aH (by decide) (by decide),hk,hn,at2]
 refine aZ v 90 3 368 [.row [fnP 304 []]] _ (by decide) (by decide) (by have:=hv.d;omega) hv.data (by decide) (by simp) (by rw[hn];exact j3 90 _ _ _ _ (by decide) (by simp) rfl rfl) (by(show List.length _<=_;simp[cb,bH,dy,fg,gg,gB,gh,bZ,bC,bh,dn,pUM,pM,dk,dq,dm,pSD,bB,bL])) (fun hk H i hi=>?_)
 have hx:=hv.x hk
 generalize v.d.drop (v.d.length-3)=x at hx ⊢
 exact⟨⟨_,func368,rfl,rfl⟩,nX 304 [] v x _ (by simp) (fun H=>⟨⟨_,func304,rfl,rfl⟩,aE1 v x hv.mem hx H⟩) H i hi⟩
def at1(v:VVm)(x:List Int):bP v 91 [77,79,86,69] x=dy v (ny v.mem (xat x 0) (xat x 1) (xat x 2)):=by kernel_rfl
def aq6(v:VVm)(hv:dJ v):ab prog 166 [eVm v,i64 91] (tVm (doS v 91)):=by
 have hk:bm 91 (ao.getD (91:Int).toNat [])=3:=by kernel_rfl
 have hn:ao.getD (91:Int).toNat []=[77,79,86,69]:=by kernel_rfl
 rw[aH (by decide) (by decide),hk,hn,at1]
 refine aZ v 91 3 368 [.row [fnP 306 []]] _ (by decide) (by decide) (by have:=hv.d;omega) hv.data (by decide) (by simp) (by rw[hn];exact j3 91 _ _ _ _ (by decide) (by simp) rfl rfl) (by(show List.length _<=_;simp[cb,bH,dy,fg,gg,gB,gh,bZ,bC,bh,dn,pUM,pM,dk,dq,dm,pSD,bB,bL])) (fun hk H i hi=>?_)
 have hx:=hv.x hk
 generalize v.d.drop (v.d.length-3)=x at hx ⊢
 exact⟨⟨_,func368,rfl,rfl⟩,nX 306 [] v x _ (by simp) (fun H=>⟨⟨_,func306,rfl,rfl⟩,aE0 v x hv.mem hx H⟩) H i hi⟩
def ap6(v:VVm)(x:List Int):bP v 92 [67,79,85,78,84] x=bZ v x:=by kernel_rfl
def ap2(v:VVm)(hv:dJ v):ab prog 166 [eVm v,i64 92] (tVm (doS v 92)):=by
 have hk:bm 92 (ao.getD (92:Int).toNat [])=1:=by kernel_rfl
 have hn:ao.getD (92:Int).toNat []=[67,79,85,78,84]:=by kernel_rfl
 rw[aH (by decide) (by decide),hk,hn,ap6]
 refine aZ v 92 1 308 [] _ (by decide) (by decide) (by have:=hv.d;omega) hv.data (by decide) (by simp) (by rw[hn];exact j3 92 _ _ _ _ (by decide) (by simp) rfl rfl) (by(show List.length _<=_;simp[cb,bH,dy,fg,gg,gB,gh,bZ,bC,bh,dn,pUM,pM,dk,dq,dm,pSD,bB,bL])) (fun hk H i hi=>?_)
 have hx:=hv.x hk
 generalize v.d.drop (v.d.length-1)=x at hx ⊢
 exact⟨⟨_,func308,rfl,rfl⟩,aF8 v x hv.mem hx H i hi⟩
def at5(v:VVm)(x:List Int):bP v 93 [72,69,82,69] x=(v,[v.here],0):=by kernel_rfl
def aC3(v:VVm)(hv:dJ v):ab prog 166 [eVm v,i64 93] (tVm (doS v 93)):=by
 have hk:bm 93 (ao.getD (93:Int).toNat [])=0:=by kernel_rfl
 have hn:ao.getD (93:Int).toNat []=[72,69,82,69]:=by kernel_rfl
 rw[aH (by decide) (by decide),hk,hn,at5]
 refine aZ v 93 0 370 [.row [fnP 315 []]] _ (by decide) (by decide) (by have:=hv.d;omega) hv.data (by decide) (by simp) (by rw[hn];exact iJ 93 _ _ _ _ (by decide) (by simp) rfl rfl rfl) (by(show List.length _<=_;simp[cb,bH,dy,fg,gg,gB,gh,bZ,bC,bh,dn,pUM,pM,dk,dq,dm,pSD,bB,bL])) (fun hk H i hi=>?_)
 have hx:=hv.x hk
 generalize v.d.drop (v.d.length-0)=x at hx ⊢
 exact⟨⟨_,func370,rfl,rfl⟩,nK 315 [] v x _ (by simp) (fun H=>⟨⟨_,func315,rfl,rfl⟩,aI8 v H⟩) H i hi⟩
def aw6(v:VVm)(x:List Int):bP v 94 [65,76,76,79,84] x=fg v (uM v x):=by kernel_rfl
def az7(v:VVm)(hv:dJ v):ab prog 166 [eVm v,i64 94] (tVm (doS v 94)):=by
 have hk:bm 94 (ao.getD (94:Int).toNat [])=1:=by kernel_rfl
 have hn:ao.getD (94:Int).toNat []=[65,76,76,79,84]:=by kernel_rfl
 rw[aH (by decide) (by decide),hk,hn,aw6]
 refine aZ v 94 1 371 [.row [fnP 317 []]] _ (by decide) (by decide) (by have:=hv.d;omega) hv.data (by decide) (by simp) (by rw[hn];exact iJ 94 _ _ _ _ (by decide) (by simp) rfl rfl rfl) (by(show List.length _<=_;simp[cb,bH,dy,fg,gg,gB,gh,bZ,bC,bh,dn,pUM,pM,dk,dq,dm,pSD,bB,bL])) (fun hk H i hi=>?_)
 have hx:=hv.x hk
 generalize v.d.drop (v.d.length-1)=x at hx ⊢
 exact⟨⟨_,func371,rfl,rfl⟩,Fj 317 [] v x _ (by simp) (fun H=>⟨⟨_,func317,rfl,rfl⟩,aF1 v x hv.mem hv.here hx H⟩) H i hi⟩
def aw4(v:VVm)(x:List Int):bP v 95 [44] x=fg v (cy v.mem v.here (xat x 0)):=by kernel_rfl
def ay0(v:VVm)(hv:dJ v):ab prog 166 [eVm v,i64 95] (tVm (doS v 95)):=by
 have hk:bm 95 (ao.getD (95:Int).toNat [])=1:=by kernel_rfl
 have hn:ao.getD (95:Int).toNat []=[44]:=by kernel_rfl
 rw[aH (by decide) (by decide),hk,hn,aw4]
 refine aZ v 95 1 371 [.row [fnP 319 []]] _ (by decide) (by decide) (by have:=hv.d;omega) hv.data (by decide) (by simp) (by rw[hn];exact iJ 95 _ _ _ _ (by decide) (by simp) rfl rfl rfl) (by(show List.length _<=_;simp[cb,bH,dy,fg,gg,gB,gh,bZ,bC,bh,dn,pUM,pM,dk,dq,dm,pSD,bB,bL])) (fun hk H i hi=>?_)
 have hx:=hv.x hk
 generalize v.d.drop (v.d.length-1)=x at hx ⊢
 exact⟨⟨_,func371,rfl,rfl⟩,Fj 319 [] v x _ (by simp) (fun H=>⟨⟨_,func319,rfl,rfl⟩,aH0 v x hv.mem hv.here hx H⟩) H i hi⟩
def au8(v:VVm)(x:List Int):bP v 96 [67,44] x=fg v (dg v.mem v.here [loB (xat x 0)]):=by kernel_rfl
def av1(v:VVm)(hv:dJ v):ab prog 166 [eVm v,i64 96] (tVm (doS v 96)):=by
 have hk:bm 96 (ao.getD (96:Int).toNat [])=1:=by kernel_rfl
 have hn:ao.getD (96:Int).toNat []=[67,44]:=by kernel_rfl
 rw[aH (by decide) (by decide),hk,hn,au8]
 refine aZ v 96 1 371 [.row [fnP 320 []]] _ (by decide) (by decide) (by have:=hv.d;omega) hv.data (by decide) (by simp) (by rw[hn];exact iJ 96 _ _ _ _ (by decide) (by simp) rfl rfl rfl) (by(show List.length _<=_;simp[cb,bH,dy,fg,gg,gB,gh,bZ,bC,bh,dn,pUM,pM,dk,dq,dm,pSD,bB,bL])) (fun hk H i hi=>?_)
 have hx:=hv.x hk
 generalize v.d.drop (v.d.length-1)=x at hx ⊢
 exact⟨⟨_,func371,rfl,rfl⟩,Fj 320 [] v x _ (by simp) (fun H=>⟨⟨_,func320,rfl,rfl⟩,aJ1 v x hv.mem hv.here hx H⟩) H i hi⟩
def au1(v:VVm)(x:List Int):bP v 97 [65,76,73,71,78] x=fg v (aN v.mem v.here):=by kernel_rfl
def az2(v:VVm)(hv:dJ v):ab prog 166 [eVm v,i64 97] (tVm (doS v 97)):=by
 have hk:bm 97 (ao.getD (97:Int).toNat [])=0:=by kernel_rfl
 have hn:ao.getD (97:Int).toNat []=[65,76,73,71,78]:=by kernel_rfl
 rw[aH (by decide) (by decide),hk,hn,au1]
 refine aZ v 97 0 371 [.row [fnP 321 []]] _ (by decide) (by decide) (by have:=hv.d;omega) hv.data (by decide) (by simp) (by rw[hn];exact iJ 97 _ _ _ _ (by decide) (by simp) rfl rfl rfl) (by(show List.length _<=_;simp[cb,bH,dy,fg,gg,gB,gh,bZ,bC,bh,dn,pUM,pM,dk,dq,dm,pSD,bB,bL])) (fun hk H i hi=>?_)
 have hx:=hv.x hk
 generalize v.d.drop (v.d.length-0)=x at hx ⊢
 exact⟨⟨_,func371,rfl,rfl⟩,Fj 321 [] v x _ (by simp) (fun H=>⟨⟨_,func321,rfl,rfl⟩,aG3 v x hv.mem hv.here H⟩) H i hi⟩
def av6(v:VVm)(x:List Int):bP v 98 [66,65,83,69] x=(v,[0],0):=by kernel_rfl
def ax3(v:VVm)(hv:dJ v):ab prog 166 [eVm v,i64 98] (tVm (doS v 98)):=by
 have hk:bm 98 (ao.getD (98:Int).toNat [])=0:=by kernel_rfl
 have hn:ao.getD (98:Int).toNat []=[66,65,83,69]:=by kernel_rfl
 rw[aH (by decide) (by decide),hk,hn,av6]
 refine aZ v 98 0 370 [.row [fnP 314 [.row [i64 (0)]]]] _ (by decide) (by decide) (by have:=hv.d;omega) hv.data (by decide) (by simp) (by rw[hn];exact iJ 98 _ _ _ _ (by decide) (by simp) rfl rfl rfl) (by(show List.length _<=_;simp[cb,bH,dy,fg,gg,gB,gh,bZ,bC,bh,dn,pUM,pM,dk,dq,dm,pSD,bB,bL])) (fun hk H i hi=>?_)
 have hx:=hv.x hk
 generalize v.d.drop (v.d.length-0)=x at hx ⊢
 exact⟨⟨_,func370,rfl,rfl⟩,nK 314 [.row [i64 (0)]] v x (0) (by simp) (fun H=>⟨⟨_,func314,rfl,rfl⟩,sS v (0) H⟩) H i hi⟩
def as3(v:VVm)(x:List Int):bP v 99 [83,84,65,84,69] x=(v,[8],0):=by kernel_rfl
def at3(v:VVm)(hv:dJ v):ab prog 166 [eVm v,i64 99] (tVm (doS v 99)):=by
 have hk:bm 99 (ao.getD (99:Int).toNat [])=0:=by kernel_rfl
 have hn:ao.getD (99:Int).toNat []=[83,84,65,84,69]:=by kernel_rfl
 rw[aH (by decide) (by decide),hk,hn,as3]
 refine aZ v 99 0 370 [.row [fnP 314 [.row [i64 (8)]]]] _ (by decide) (by decide) (by have:=hv.d;omega) hv.data (by decide) (by simp) (by rw[hn];exact iJ 99 _ _ _ _ (by decide) (by simp) rfl rfl rfl) (by(show List.length _<=_;simp[cb,bH,dy,fg,gg,gB,gh,bZ,bC,bh,dn,pUM,pM,dk,dq,dm,pSD,bB,bL])) (fun hk H i hi=>?_)
 have hx:=hv.x hk
 generalize v.d.drop (v.d.length-0)=x at hx ⊢
 exact⟨⟨_,func370,rfl,rfl⟩,nK 314 [.row [i64 (8)]] v x (8) (by simp) (fun H=>⟨⟨_,func314,rfl,rfl⟩,sS v (8) H⟩) H i hi⟩
def ZP(v:VVm)(x:List Int):bP v 100 [84,82,85,69] x=(v,[-1],0):=by kernel_rfl
def ac8(v:VVm)(hv:dJ v):ab prog 166 [eVm v,i64 100] (tVm (doS v 100)):=by
 have hk:bm 100 (ao.getD (100:Int).toNat [])=0:=by kernel_rfl
 have hn:ao.getD (100:Int).toNat []=[84,82,85,69]:=by kernel_rfl
 rw[aH (by decide) (by decide),hk,hn,ZP]
 refine aZ v 100 0 370 [.row [fnP 314 [.row [i64 (-1)]]]] _ (by decide) (by decide) (by have:=hv.d;omega) hv.data (by decide) (by simp) (by rw[hn];exact iJ 100 _ _ _ _ (by decide) (by simp) rfl rfl rfl) (by(show List.length _<=_;simp[cb,bH,dy,fg,gg,gB,gh,bZ,bC,bh,dn,pUM,pM,dk,dq,dm,pSD,bB,bL])) (fun hk H i hi=>?_)
 have hx:=hv.x hk
 generalize v.d.drop (v.d.length-0)=x at hx ⊢
 exact⟨⟨_,func370,rfl,rfl⟩,nK 314 [.row [i64 (-1)]] v x (-1) (by simp) (fun H=>⟨⟨_,func314,rfl,rfl⟩,sS v (-1) H⟩) H i hi⟩
def Zk(v:VVm)(x:List Int):bP v 101 [70,65,76,83,69] x=(v,[0],0):=by kernel_rfl
def aj3(v:VVm)(hv:dJ v):ab prog 166 [eVm v,i64 101] (tVm (doS v 101)):=by
 have hk:bm 101 (ao.getD (101:Int).toNat [])=0:=by kernel_rfl
 have hn:ao.getD (101:Int).toNat []=[70,65,76,83,69]:=by kernel_rfl
 rw[aH (by decide) (by decide),hk,hn,Zk]
 refine aZ v 101 0 370 [.row [fnP 314 [.row [i64 (0)]]]] _ (by decide) (by decide) (by have:=hv.d;omega) hv.data (by decide) (by simp) (by rw[hn];exact iJ 101 _ _ _ _ (by decide) (by simp) rfl rfl rfl) (by(show List.length _<=_;simp[cb,bH,dy,fg,gg,gB,gh,bZ,bC,bh,dn,pUM,pM,dk,dq,dm,pSD,bB,bL])) (fun hk H i hi=>?_)
 have hx:=hv.x hk
 generalize v.d.drop (v.d.length-0)=x at hx ⊢
 exact⟨⟨_,func370,rfl,rfl⟩,nK 314 [.row [i64 (0)]] v x (0) (by simp) (fun H=>⟨⟨_,func314,rfl,rfl⟩,sS v (0) H⟩) H i hi⟩
def aj0(v:VVm)(x:List Int):bP v 102 [66,76] x=(v,[32],0):=by kernel_rfl
def aa0(v:VVm)(hv:dJ v):ab prog 166 [eVm v,i64 102] (tVm (doS v 102)):=by
 have hk:bm 102 (ao.getD (102:Int).toNat [])=0:=by kernel_rfl
 have hn:ao.getD (102:Int).toNat []=[66,76]:=by kernel_rfl
 rw[aH (by decide) (by decide),hk,hn,aj0]
 refine aZ v 102 0 370 [.row [fnP 314 [.row [i64 (32)]]]] _ (by decide) (by decide) (by have:=hv.d;omega) hv.data (by decide) (by simp) (by rw[hn];exact iJ 102 _ _ _ _ (by decide) (by simp) rfl rfl rfl) (by(show List.length _<=_;simp[cb,bH,dy,fg,gg,gB,gh,bZ,bC,bh,dn,pUM,pM,dk,dq,dm,pSD,bB,bL])) (fun hk H i hi=>?_)
 have hx:=hv.x hk
 generalize v.d.drop (v.d.length-0)=x at hx ⊢
 exact⟨⟨_,func370,rfl,rfl⟩,nK 314 [.row [i64 (32)]] v x (32) (by simp) (fun H=>⟨⟨_,func314,rfl,rfl⟩,sS v (32) H⟩) H i hi⟩
def ai8(v:VVm)(x:List Int):bP v 103 [68,69,67,73,77,65,76] x=dy v (ay v.mem 0 10):=by kernel_rfl
def ag3(v:VVm)(hv:dJ v):ab prog 166 [eVm v,i64 103] (tVm (doS v 103)):=by
 have hk:bm 103 (ao.getD (103:Int).toNat [])=0:=by kernel_rfl
 have hn:ao.getD (103:Int).toNat []=[68,69,67,73,77,65,76]:=by kernel_rfl
 rw[aH (by decide) (by decide),hk,hn,ai8]
 refine aZ v 103 0 310 [.row [i64 10]] _ (by decide) (by decide) (by have:=hv.d;omega) hv.data (by decide) (by simp) (by rw[hn];exact iJ 103 _ _ _ _ (by decide) (by simp) rfl rfl rfl) (by(show List.length _<=_;simp[cb,bH,dy,fg,gg,gB,gh,bZ,bC,bh,dn,pUM,pM,dk,dq,dm,pSD,bB,bL])) (fun hk H i hi=>?_)
 have hx:=hv.x hk
 generalize v.d.drop (v.d.length-0)=x at hx ⊢
 exact⟨⟨_,func310,rfl,rfl⟩,Tc v x 10 hv.mem H i hi⟩
def aj8(v:VVm)(x:List Int):bP v 104 [72,69,88] x=dy v (ay v.mem 0 16):=by kernel_rfl
def ai4(v:VVm)(hv:dJ v):ab prog 166 [eVm v,i64 104] (tVm (doS v 104)):=by
 have hk:bm 104 (ao.getD (104:Int).toNat [])=0:=by kernel_rfl
 have hn:ao.getD (104:Int).toNat []=[72,69,88]:=by kernel_rfl
 rw[aH (by decide) (by decide),hk,hn,aj8]
 refine aZ v 104 0 310 [.row [i64 16]] _ (by decide) (by decide) (by have:=hv.d;omega) hv.data (by decide) (by simp) (by rw[hn];exact iJ 104 _ _ _ _ (by decide) (by simp) rfl rfl rfl) (by(show List.length _<=_;simp[cb,bH,dy,fg,gg,gB,gh,bZ,bC,bh,dn,pUM,pM,dk,dq,dm,pSD,bB,bL])) (fun hk H i hi=>?_)
 have hx:=hv.x hk
 generalize v.d.drop (v.d.length-0)=x at hx ⊢
 exact⟨⟨_,func310,rfl,rfl⟩,Tc v x 16 hv.mem H i hi⟩
def ZC(v:VVm)(x:List Int):bP v 105 [69,77,73,84] x=dB v ([loB (xat x 0)],0):=by kernel_rfl
def ac4(v:VVm)(hv:dJ v):ab prog 166 [eVm v,i64 105] (tVm (doS v 105)):=by
 have hk:bm 105 (ao.getD (105:Int).toNat [])=1:=by kernel_rfl
 have hn:ao.getD (105:Int).toNat []=[69,77,73,84]:=by kernel_rfl
 rw[aH (by decide) (by decide),hk,hn,ZC]
 refine aZ v 105 1 372 [.row [fnP 328 []]] _ (by decide) (by decide) (by have:=hv.d;omega) hv.data (by decide) (by simp) (by rw[hn];exact oa 105 _ _ _ _ (by decide) (by simp) rfl rfl rfl rfl) (by unfold dB;split<;>simp) (fun hk H i hi=>?_)
 have hx:=hv.x hk
 generalize v.d.drop (v.d.length-1)=x at hx ⊢
 exact⟨⟨_,func372,rfl,rfl⟩,vg 328 [] v x ([loB (xat x 0)],0) hv.out1 hv.out (by simp) (by simp) (fun H=>⟨⟨_,func328,rfl,rfl⟩,aG1 v x hx H⟩) H i hi⟩
def ae7(v:VVm)(x:List Int):bP v 106 [67,82] x=dB v ([10],0):=by kernel_rfl
def Zl(v:VVm)(hv:dJ v):ab prog 166 [eVm v,i64 106] (tVm (doS v 106)):=by
 have hk:bm 106 (ao.getD (106:Int).toNat [])=0:=by kernel_rfl
 have hn:ao.getD (106:Int).toNat []=[67,82]:=by kernel_rfl
 rw[aH (by decide) (by decide),hk,hn,ae7]
 refine aZ v 106 0 372 [.row [fnP 327 [.row [str [10]]]]] _ (by decide) (by decide) (by have:=hv.d;omega) hv.data (by decide) (by simp) (by rw[hn];exact oa 106 _ _ _ _ (by decide) (by simp) rfl rfl rfl rfl) (by unfold dB;split<;>simp) (fun hk H i hi=>?_)
 have hx:=hv.x hk
 generalize v.d.drop (v.d.length-0)=x at hx ⊢
 exact⟨⟨_,func372,rfl,rfl⟩,vg 327 [.row [str [10]]] v x ([10],0) hv.out1 hv.out (by simp) (by simp) (fun H=>⟨⟨_,func327,rfl,rfl⟩,Qu [10] v x H⟩) H i hi⟩
def ad7(v:VVm)(x:List Int):bP v 107 [83,80,65,67,69] x=dB v ([32],0):=by kernel_rfl
def ZW(v:VVm)(hv:dJ v):ab prog 166 [eVm v,i64 107] (tVm (doS v 107)):=by
 have hk:bm 107 (ao.getD (107:Int).toNat [])=0:=by kernel_rfl
 have hn:ao.getD (107:Int).toNat []=[83,80,65,67,69]:=by kernel_rfl
 rw[aH (by decide) (by decide),hk,hn,ad7]
 refine aZ v 107 0 372 [.row [fnP 327 [.row [str [32]]]]] _ (by decide) (by decide) (by have:=hv.d;omega) hv.data (by decide) (by simp) (by rw[hn];exact oa 107 _ _ _ _ (by decide) (by simp) rfl rfl rfl rfl) (by unfold dB;split<;>simp) (fun hk H i hi=>?_)
 have hx:=hv.x hk
 generalize v.d.drop (v.d.length-0)=x at hx ⊢
 exact⟨⟨_,func372,rfl,rfl⟩,vg 327 [.row [str [32]]] v x ([32],0) hv.out1 hv.out (by simp) (by simp) (fun H=>⟨⟨_,func327,rfl,rfl⟩,Qu [32] v x H⟩) H i hi⟩
def ac0(v:VVm)(x:List Int):bP v 108 [83,80,65,67,69,83] x=dB v (wt v x,0):=by kernel_rfl
def ad5(v:VVm)(hv:dJ v):ab prog 166 [eVm v,i64 108] (tVm (doS v 108)):=by
 have hk:bm 108 (ao.getD (108:Int).toNat [])=1:=by kernel_rfl
 have hn:ao.getD (108:Int).toNat []=[83,80,65,67,69,83]:=by kernel_rfl
 rw[aH (by decide) (by decide),hk,hn,ac0]
 refine aZ v 108 1 372 [.row [fnP 329 []]] _ (by decide) (by decide) (by have:=hv.d;omega) hv.data (by decide) (by simp) (by rw[hn];exact oa 108 _ _ _ _ (by decide) (by simp) rfl rfl rfl rfl) (by unfold dB;split<;>simp) (fun hk H i hi=>?_)
 have hx:=hv.x hk
 generalize v.d.drop (v.d.length-1)=x at hx ⊢
 exact⟨⟨_,func372,rfl,rfl⟩,vg 329 [] v x (wt v x,0) hv.out1 hv.out (by have:=hv.out2;simp only[wt,List.length_replicate];omega) (by simp) (fun H=>⟨⟨_,func329,rfl,rfl⟩,aE9 v x hv.out2 hx H⟩) H i hi⟩
def ZY(v:VVm)(x:List Int):bP v 109 [84,89,80,69] x=dB v (dU v.mem (xat x 0) (xat x 1)):=by kernel_rfl
def Zj(v:VVm)(hv:dJ v):ab prog 166 [eVm v,i64 109] (tVm (doS v 109)):=by
 have hk:bm 109 (ao.getD (109:Int).toNat [])=2:=by kernel_rfl
 have hn:ao.getD (109:Int).toNat []=[84,89,80,69]:=by kernel_rfl
 rw[aH (by decide) (by decide),hk,hn,ZY]
 refine aZ v 109 2 372 [.row [fnP 331 []]] _ (by decide) (by decide) (by have:=hv.d;omega) hv.data (by decide) (by simp) (by rw[hn];exact oa 109 _ _ _ _ (by decide) (by simp) rfl rfl rfl rfl) (by unfold dB;split<;>simp) (fun hk H i hi=>?_)
 have hx:=hv.x hk
 generalize v.d.drop (v.d.length-2)=x at hx ⊢
 exact⟨⟨_,func372,rfl,rfl⟩,vg 331 [] v x (dU v.mem (xat x 0) (xat x 1)) hv.out1 hv.out (by have:=Fo v.mem (xat x 0) (xat x 1);have:=hv.mem.b;omega) (by simp) (fun H=>⟨⟨_,func331,rfl,rfl⟩,aF7 v x hv.mem hx H⟩) H i hi⟩
def Zz(v:VVm)(x:List Int):bP v 110 [46] x=dB v (sa (dh (xat x 0) (kz v))):=by kernel_rfl
def al9(v:VVm)(hv:dJ v):ab prog 166 [eVm v,i64 110] (tVm (doS v 110)):=by
 have hk:bm 110 (ao.getD (110:Int).toNat [])=1:=by kernel_rfl
 have hn:ao.getD (110:Int).toNat []=[46]:=by kernel_rfl
 rw[aH (by decide) (by decide),hk,hn,Zz]
 refine aZ v 110 1 372 [.row [fnP 324 [.row [fnP 332 []]]]] _ (by decide) (by decide) (by have:=hv.d;omega) hv.data (by decide) (by simp) (by rw[hn];exact oa 110 _ _ _ _ (by decide) (by simp) rfl rfl rfl rfl) (by unfold dB;split<;>simp) (fun hk H i hi=>?_)
 have hx:=hv.x hk
 generalize v.d.drop (v.d.length-1)=x at hx ⊢
 exact⟨⟨_,func372,rfl,rfl⟩,vg 324 [.row [fnP 332 []]] v x (sa (dh (xat x 0) (kz v))) hv.out1 hv.out (by have:=Cn (xat x 0) (kz v);simp only[sa,List.length_append,List.length_singleton];omega) (by simp) (fun H=>⟨⟨_,func324,rfl,rfl⟩,FZ 332 [] v x (dh (xat x 0) (kz v)) hx.len (gI hv.mem) (by have:=Cn (xat x 0) (kz v);omega) (by simp) (fun H=>⟨⟨_,func332,rfl,rfl⟩,ad1 _ _ (hx.fit 0) H⟩) H⟩) H i hi⟩
def ag1(v:VVm)(x:List Int):bP v 111 [85,46] x=dB v (sa (dN (xat x 0) (kz v))):=by kernel_rfl
def ZV(v:VVm)(hv:dJ v):ab prog 166 [eVm v,i64 111] (tVm (doS v 111)):=by
 have hk:bm 111 (ao.getD (111:Int).toNat [])=1:=by kernel_rfl
 have hn:ao.getD (111:Int).toNat []=[85,46]:=by kernel_rfl
 rw[aH (by decide) (by decide),hk,hn,ag1]
 refine aZ v 111 1 372 [.row [fnP 324 [.row [fnP 333 []]]]] _ (by decide) (by decide) (by have:=hv.d;omega) hv.data (by decide) (by simp) (by rw[hn];exact oa 111 _ _ _ _ (by decide) (by simp) rfl rfl rfl rfl) (by unfold dB;split<;>simp) (fun hk H i hi=>?_)
 have hx:=hv.x hk
 generalize v.d.drop (v.d.length-1)=x at hx ⊢
 exact⟨⟨_,func372,rfl,rfl⟩,vg 324 [.row [fnP 333 []]] v x (sa (dN (xat x 0) (kz v))) hv.out1 hv.out (by have:=Be (xat x 0) (kz v);simp only[sa,List.length_append,List.length_singleton];omega) (by simp) (fun H=>⟨⟨_,func324,rfl,rfl⟩,FZ 333 [] v x (dN (xat x 0) (kz v)) hx.len (gI hv.mem) (by have:=Be (xat x 0) (kz v);omega) (by simp) (fun H=>⟨⟨_,func333,rfl,rfl⟩,X4 _ _ (hx.fit 0) H⟩) H⟩) H i hi⟩
def Z0(v:VVm)(x:List Int):bP v 112 [60,35] x=(ut v ⟨[],true⟩,[],0):=by kernel_rfl
def Z6(v:VVm)(hv:dJ v):ab prog 166 [eVm v,i64 112] (tVm (doS v 112)):=by
 have hk:bm 112 (ao.getD (112:Int).toNat [])=0:=by kernel_rfl
 have hn:ao.getD (112:Int).toNat []=[60,35]:=by kernel_rfl
 rw[aH (by decide) (by decide),hk,hn,Z0]
 refine aZ v 112 0 336 [] _ (by decide) (by decide) (by have:=hv.d;omega) hv.data (by decide) (by simp) (by rw[hn];exact pJ 112 _ _ _ _ (by decide) (by simp) rfl rfl rfl rfl rfl) (by(show List.length _<=_;simp[cb,bH,dy,fg,gg,gB,gh,bZ,bC,bh,dn,pUM,pM,dk,dq,dm,pSD,bB,bL])) (fun hk H i hi=>?_)
 have hx:=hv.x hk
 generalize v.d.drop (v.d.length-0)=x at hx ⊢
 exact⟨⟨_,func336,rfl,rfl⟩,aH9 v x H i hi⟩
def ag2(v:VVm)(x:List Int):bP v 113 [35] x=gB v x:=by kernel_rfl
def ah7(v:VVm)(hv:dJ v):ab prog 166 [eVm v,i64 113] (tVm (doS v 113)):=by
 have hk:bm 113 (ao.getD (113:Int).toNat [])=2:=by kernel_rfl
 have hn:ao.getD (113:Int).toNat []=[35]:=by kernel_rfl
 rw[aH (by decide) (by decide),hk,hn,ag2]
 refine aZ v 113 2 338 [] _ (by decide) (by decide) (by have:=hv.d;omega) hv.data (by decide) (by simp) (by rw[hn];exact pJ 113 _ _ _ _ (by decide) (by simp) rfl rfl rfl rfl rfl) (by(show List.length _<=_;simp[cb,bH,dy,fg,gg,gB,gh,bZ,bC,bh,dn,pUM,pM,dk,dq,dm,pSD,bB,bL])) (fun hk H i hi=>?_)
 have hx:=hv.x hk
 generalize v.d.drop (v.d.length-2)=x at hx ⊢
 exact⟨⟨_,func338,rfl,rfl⟩,aE8 v x hv.pic (gI hv.mem) hx H i hi⟩
def Zu(v:VVm)(x:List Int):bP v 114 [35,83] x=gh v x:=by kernel_rfl
def aa4(v:VVm)(hv:dJ v):ab prog 166 [eVm v,i64 114] (tVm (doS v 114)):=by
 have hk:bm 114 (ao.getD (114:Int).toNat [])=2:=by kernel_rfl
 have hn:ao.getD (114:Int).toNat []=[35,83]:=by kernel_rfl
 rw[aH (by decide) (by decide),hk,hn,Zu]
 refine aZ v 114 2 340 [] _ (by decide) (by decide) (by have:=hv.d;omega) hv.data (by decide) (by simp) (by rw[hn];exact pJ 114 _ _ _ _ (by decide) (by simp) rfl rfl rfl rfl rfl) (by(show List.length _<=_;simp[cb,bH,dy,fg,gg,gB,gh,bZ,bC,bh,dn,pUM,pM,dk,dq,dm,pSD,bB,bL])) (fun hk H i hi=>?_)
 have hx:=hv.x hk
 generalize v.d.drop (v.d.length-2)=x at hx ⊢
 exact⟨⟨_,func340,rfl,rfl⟩,aE5 v x hv.pic (gI hv.mem) hx H i hi⟩
def ag8(v:VVm)(x:List Int):bP v 115 [72,79,76,68] x=gg v (gX v.pic (xat x 0)):=by kernel_rfl
def ak4(v:VVm)(hv:dJ v):ab prog 166 [eVm v,i64 115] (tVm (doS v 115)):=by
 have hk:bm 115 (ao.getD (115:Int).toNat [])=1:=by kernel_rfl
 have hn:ao.getD (115:Int).toNat []=[72,79,76,68]:=by kernel_rfl
 rw[aH (by decide) (by decide),hk,hn,ag8]
 refine aZ v 115 1 335 [.row [fnP 342 []]] _ (by decide) (by decide) (by have:=hv.d;omega) hv.data (by decide) (by simp) (by rw[hn];exact pJ 115 _ _ _ _ (by decide) (by simp) rfl rfl rfl rfl rfl) (by(show List.length _<=_;simp[cb,bH,dy,fg,gg,gB,gh,bZ,bC,bh,dn,pUM,pM,dk,dq,dm,pSD,bB,bL])) (fun hk H i hi=>?_)
 have hx:=hv.x hk
 generalize v.d.drop (v.d.length-1)=x at hx ⊢
 exact⟨⟨_,func335,rfl,rfl⟩,Y9 342 [] v x _ hx.len (by simp) (fun H=>⟨⟨_,func342,rfl,rfl⟩,Bo v.pic _ hv.pic H⟩) H i hi⟩
def ZT(v:VVm)(x:List Int):bP v 116 [83,73,71,78] x=gg v (oZ v.pic (xat x 0)):=by kernel_rfl
def ad8(v:VVm)(hv:dJ v):ab prog 166 [eVm v,i64 116] (tVm (doS v 116)):=by
 have hk:bm 116 (ao.getD (116:Int).toNat [])=1:=by kernel_rfl
 have hn:ao.getD (116:Int).toNat []=[83,73,71,78]:=by kernel_rfl
 rw[aH (by decide) (by decide),hk,hn,ZT]
 refine aZ v 116 1 335 [.row [fnP 343 []]] _ (by decide) (by decide) (by have:=hv.d;omega) hv.data (by decide) (by simp) (by rw[hn];exact pJ 116 _ _ _ _ (by decide) (by simp) rfl rfl rfl rfl rfl) (by(show List.length _<=_;simp[cb,bH,dy,fg,gg,gB,gh,bZ,bC,bh,dn,pUM,pM,dk,dq,dm,pSD,bB,bL])) (fun hk H i hi=>?_)
 have hx:=hv.x hk
 generalize v.d.drop (v.d.length-1)=x at hx ⊢
 exact⟨⟨_,func335,rfl,rfl⟩,Y9 343 [] v x _ hx.len (by simp) (fun H=>⟨⟨_,func343,rfl,rfl⟩,SO v.pic _ hv.pic H⟩) H i hi⟩
def ZM(v:VVm)(x:List Int):bP v 117 [35,62] x=xR v:=by kernel_rfl
def af2(v:VVm)(hv:dJ v):ab prog 166 [eVm v,i64 117] (tVm (doS v 117)):=by
 have hk:bm 117 (ao.getD (117:Int).toNat [])=2:=by kernel_rfl
 have hn:ao.getD (117:Int).toNat []=[35,62]:=by kernel_rfl
 rw[aH (by decide) (by decide),hk,hn,ZM]
 refine aZ v 117 2 344 [] _ (by decide) (by decide) (by have:=hv.d;omega) hv.data (by decide) (by simp) (by rw[hn];exact pJ 117 _ _ _ _ (by decide) (by simp) rfl rfl rfl rfl rfl) (by unfold xR;split<;>simp) (fun hk H i hi=>?_)
 have hx:=hv.x hk
 generalize v.d.drop (v.d.length-2)=x at hx ⊢
 exact⟨⟨_,func344,rfl,rfl⟩,aF0 v x hv.pic hv.mem H i hi⟩
def al0(v:VVm)(x:List Int):bP v 118 [62,66,79,68,89] x=wo v x:=by kernel_rfl
def ZN(v:VVm)(hv:dJ v):ab prog 166 [eVm v,i64 118] (tVm (doS v 118)):=by
 have hk:bm 118 (ao.getD (118:Int).toNat [])=1:=by kernel_rfl
 have hn:ao.getD (118:Int).toNat []=[62,66,79,68,89]:=by kernel_rfl
 rw[aH (by decide) (by decide),hk,hn,al0]
 rw[<-MX (r':=(v,bL v (v.d.drop (v.d.length-1)))) (Ox v _) (Vt v _)]
 refine aZ v 118 1 346 [] _ (by decide) (by decide) (by have:=hv.d;omega) hv.data (by decide) (by simp) (by rw[hn];exact iS 118 _ _ _ _ (by decide) (by simp) rfl rfl rfl rfl rfl rfl) (by(show List.length _<=_;simp[cb,bH,dy,fg,gg,gB,gh,bZ,bC,bh,dn,pUM,pM,dk,dq,dm,pSD,bB,bL])) (fun hk H i hi=>?_)
 have hx:=hv.x hk
 generalize v.d.drop (v.d.length-1)=x at hx ⊢
 exact⟨⟨_,func346,rfl,rfl⟩,aI3 v x (gI hv.mem) hx H i hi⟩
def Zy(v:VVm)(x:List Int):bP v 119 [65,66,79,82,84] x=(v,[],-1):=by kernel_rfl
def ak5(v:VVm)(hv:dJ v):ab prog 166 [eVm v,i64 119] (tVm (doS v 119)):=by
 have hk:bm 119 (ao.getD (119:Int).toNat [])=0:=by kernel_rfl
 have hn:ao.getD (119:Int).toNat []=[65,66,79,82,84]:=by kernel_rfl
 rw[aH (by decide) (by decide),hk,hn,Zy]
 refine aZ v 119 0 271 [.row [fnP 347 []]] _ (by decide) (by decide) (by have:=hv.d;omega) hv.data (by decide) (by simp) (by rw[hn];exact iS 119 _ _ _ _ (by decide) (by simp) rfl rfl rfl rfl rfl rfl) (by(show List.length _<=_;simp[cb,bH,dy,fg,gg,gB,gh,bZ,bC,bh,dn,pUM,pM,dk,dq,dm,pSD,bB,bL])) (fun hk H i hi=>?_)
 have hx:=hv.x hk
 generalize v.d.drop (v.d.length-0)=x at hx ⊢
 exact⟨⟨_,func271,rfl,rfl⟩,lM 347 [] v x (v,[],-1).2 (by simp) (fun H=>⟨⟨_,func347,rfl,rfl⟩,aG4 x H⟩) H i hi⟩
def ab5(v:VVm)(x:List Int):bP v 120 [80,79,83,84] x=j5 v x:=by kernel_rfl
def al6(v:VVm)(hv:dJ v):ab prog 166 [eVm v,i64 120] (tVm (doS v 120)):=by
 have hk:bm 120 (ao.getD (120:Int).toNat [])=3:=by kernel_rfl
 have hn:ao.getD (120:Int).toNat []=[80,79,83,84]:=by kernel_rfl
 rw[aH (by decide) (by decide),hk,hn,ab5]
 refine aZ v 120 3 383 [.row [i64 1],.row [i64 3]] _ (by decide) (by decide) (by have:=hv.d;omega) hv.data (by decide) (by simp) (by rw[hn];exact iS 120 _ _ _ _ (by decide) (by simp) rfl rfl rfl rfl rfl rfl) (by unfold j5;split;simp;split<;>simp) (fun hk H i hi=>?_)
 have hx:=hv.x hk
 generalize v.d.drop (v.d.length-3)=x at hx ⊢
 exact⟨⟨_,func383,rfl,rfl⟩,ac2 v x hv.req hv.hand hx H i hi⟩
def ak7(v:VVm)(x:List Int):bP v 121 [65,70,84,69,82] x=dA 2 v x:=by kernel_rfl
def aa6(v:VVm)(hv:dJ v):ab prog 166 [eVm v,i64 121] (tVm (doS v 121)):=by
 have hk:bm 121 (ao.getD (121:Int).toNat [])=4:=by kernel_rfl
 have hn:ao.getD (121:Int).toNat []=[65,70,84,69,82]:=by kernel_rfl
 rw[aH (by decide) (by decide),hk,hn,ak7]
 refine aZ v 121 4 383 [.row [i64 2],.row [i64 4]] _ (by decide) (by decide) (by have:=hv.d;omega) hv.data (by decide) (by simp) (by rw[hn];exact iS 121 _ _ _ _ (by decide) (by simp) rfl rfl rfl rfl rfl rfl) (by unfold dA;split;simp;split;simp;split;simp;split<;>simp) (fun hk H i hi=>?_)
 have hx:=hv.x hk
 generalize v.d.drop (v.d.length-4)=x at hx ⊢
 exact⟨⟨_,func383,rfl,rfl⟩,ME 2 (by decide) v x hv.req hv.hand hx H i hi⟩
def ab4(v:VVm)(x:List Int):bP v 122 [69,86,69,82,89] x=dA 3 v x:=by kernel_rfl
def aj1(v:VVm)(hv:dJ v):ab prog 166 [eVm v,i64 122] (tVm (doS v 122)):=by
 have hk:bm 122 (ao.getD (122:Int).toNat [])=4:=by kernel_rfl
 have hn:ao.getD (122:Int).toNat []=[69,86,69,82,89]:=by kernel_rfl
 rw[aH (by decide) (by decide),hk,hn,ab4]
 refine aZ v 122 4 383 [.row [i64 3],.row [i64 4]] _ (by decide) (by decide) (by have:=hv.d;omega) hv.data (by decide) (by simp) (by rw[hn];exact iS 122 _ _ _ _ (by decide) (by simp) rfl rfl rfl rfl rfl rfl) (by unfold dA;split;simp;split;simp;split;simp;split<;>simp) (fun hk H i hi=>?_)
 have hx:=hv.x hk
 generalize v.d.drop (v.d.length-4)=x at hx ⊢
 exact⟨⟨_,func383,rfl,rfl⟩,ME 3 (by decide) v x hv.req hv.hand hx H i hi⟩
def Z7(v:VVm)(x:List Int):bP v 123 [67,65,78,67,69,76] x=jI v x:=by kernel_rfl
def ah9(v:VVm)(hv:dJ v):ab prog 166 [eVm v,i64 123] (tVm (doS v 123)):=by
 have hk:bm 123 (ao.getD (123:Int).toNat [])=1:=by kernel_rfl
 have hn:ao.getD (123:Int).toNat []=[67,65,78,67,69,76]:=by kernel_rfl
 rw[aH (by decide) (by decide),hk,hn,Z7]
 refine aZ v 123 1 383 [.row [i64 4],.row [i64 1]] _ (by decide) (by decide) (by have:=hv.d;omega) hv.data (by decide) (by simp) (by rw[hn];exact iS 123 _ _ _ _ (by decide) (by simp) rfl rfl rfl rfl rfl rfl) (by unfold jI;split<;>simp) (fun hk H i hi=>?_)
 have hx:=hv.x hk
 generalize v.d.drop (v.d.length-1)=x at hx ⊢
 exact⟨⟨_,func383,rfl,rfl⟩,Rt v x hv.req hx H i hi⟩
def ZX(v:VVm)(x:List Int):bP v 124 [65,82,71] x=(v,[v.arg],0):=by kernel_rfl
def ah4(v:VVm)(hv:dJ v):ab prog 166 [eVm v,i64 124] (tVm (doS v 124)):=by
 have hk:bm 124 (ao.getD (124:Int).toNat [])=0:=by kernel_rfl
 have hn:ao.getD (124:Int).toNat []=[65,82,71]:=by kernel_rfl
 rw[aH (by decide) (by decide),hk,hn,ZX]
 refine aZ v 124 0 370 [.row [fnP 349 []]] _ (by decide) (by decide) (by have:=hv.d;omega) hv.data (by decide) (by simp) (by rw[hn];exact iS 124 _ _ _ _ (by decide) (by simp) rfl rfl rfl rfl rfl rfl) (by(show List.length _<=_;simp[cb,bH,dy,fg,gg,gB,gh,bZ,bC,bh,dn,pUM,pM,dk,dq,dm,pSD,bB,bL])) (fun hk H i hi=>?_)
 have hx:=hv.x hk
 generalize v.d.drop (v.d.length-0)=x at hx ⊢
 exact⟨⟨_,func370,rfl,rfl⟩,nK 349 [] v x _ (by simp) (fun H=>⟨⟨_,func349,rfl,rfl⟩,aD1 v H⟩) H i hi⟩
def aj2(v:VVm)(x:List Int):bP v 125 [83,69,76,70] x=(v,[v.self],0):=by kernel_rfl
def ag9(v:VVm)(hv:dJ v):ab prog 166 [eVm v,i64 125] (tVm (doS v 125)):=by
 have hk:bm 125 (ao.getD (125:Int).toNat [])=0:=by kernel_rfl
 have hn:ao.getD (125:Int).toNat []=[83,69,76,70]:=by kernel_rfl
 rw[aH (by decide) (by decide),hk,hn,aj2]
 refine aZ v 125 0 370 [.row [fnP 350 []]] _ (by decide) (by decide) (by have:=hv.d;omega) hv.data (by decide) (by simp) (by rw[hn];exact iS 125 _ _ _ _ (by decide) (by simp) rfl rfl rfl rfl rfl rfl) (by(show List.length _<=_;simp[cb,bH,dy,fg,gg,gB,gh,bZ,bC,bh,dn,pUM,pM,dk,dq,dm,pSD,bB,bL])) (fun hk H i hi=>?_)
 have hx:=hv.x hk
 generalize v.d.drop (v.d.length-0)=x at hx ⊢
 exact⟨⟨_,func370,rfl,rfl⟩,nK 350 [] v x _ (by simp) (fun H=>⟨⟨_,func350,rfl,rfl⟩,aH8 v H⟩) H i hi⟩
def Z2(v:VVm)(x:List Int):bP v 126 [78,79,87] x=(v,[v.now],0):=by kernel_rfl
def ak3(v:VVm)(hv:dJ v):ab prog 166 [eVm v,i64 126] (tVm (doS v 126)):=by
 have hk:bm 126 (ao.getD (126:Int).toNat [])=0:=by kernel_rfl
 have hn:ao.getD (126:Int).toNat []=[78,79,87]:=by kernel_rfl
 rw[aH (by decide) (by decide),hk,hn,Z2]
 refine aZ v 126 0 370 [.row [fnP 351 []]] _ (by decide) (by decide) (by have:=hv.d;omega) hv.data (by decide) (by simp) (by rw[hn];exact iS 126 _ _ _ _ (by decide) (by simp) rfl rfl rfl rfl rfl rfl) (by(show List.length _<=_;simp[cb,bH,dy,fg,gg,gB,gh,bZ,bC,bh,dn,pUM,pM,dk,dq,dm,pSD,bB,bL])) (fun hk H i hi=>?_)
 have hx:=hv.x hk
 generalize v.d.drop (v.d.length-0)=x at hx ⊢
 exact⟨⟨_,func370,rfl,rfl⟩,nK 351 [] v x _ (by simp) (fun H=>⟨⟨_,func351,rfl,rfl⟩,aG6 v H⟩) H i hi⟩
def af7(v:VVm)(x:List Int):bP v 127 [83,69,84,45,83,84,65,84,69] x=g8 v x:=by kernel_rfl
def ag0(v:VVm)(hv:dJ v):ab prog 166 [eVm v,i64 127] (tVm (doS v 127)):=by
 have hk:bm 127 (ao.getD (127:Int).toNat [])=2:=by kernel_rfl
 have hn:ao.getD (127:Int).toNat []=[83,69,84,45,83,84,65,84,69]:=by kernel_rfl
 rw[aH (by decide) (by decide),hk,hn,af7]
 refine aZ v 127 2 352 [] _ (by decide) (by decide) (by have:=hv.d;omega) hv.data (by decide) (by simp) (by rw[hn];exact iS 127 _ _ _ _ (by decide) (by simp) rfl rfl rfl rfl rfl rfl) (by unfold g8 dy;split<;>simp) (fun hk H i hi=>?_)
 have hx:=hv.x hk
 generalize v.d.drop (v.d.length-2)=x at hx ⊢
 exact⟨⟨_,func352,rfl,rfl⟩,aJ4 v x hv.mem hx H i hi⟩
def ab9(v:VVm)(x:List Int):bP v 128 [65,84,45,83,84,65,84,69] x=jk v x:=by kernel_rfl
def ab7(v:VVm)(hv:dJ v):ab prog 166 [eVm v,i64 128] (tVm (doS v 128)):=by
 have hk:bm 128 (ao.getD (128:Int).toNat [])=3:=by kernel_rfl
 have hn:ao.getD (128:Int).toNat []=[65,84,45,83,84,65,84,69]:=by kernel_rfl
 rw[aH (by decide) (by decide),hk,hn,ab9]
 refine aZ v 128 3 354 [] _ (by decide) (by decide) (by have:=hv.d;omega) hv.data (by decide) (by simp) (by rw[hn];exact iS 128 _ _ _ _ (by decide) (by simp) rfl rfl rfl rfl rfl rfl) (by unfold jk dy;split<;>simp) (fun hk H i hi=>?_)
 have hx:=hv.x hk
 generalize v.d.drop (v.d.length-3)=x at hx ⊢
 exact⟨⟨_,func354,rfl,rfl⟩,aH2 v x hv.mem hx H i hi⟩
def aa7(v:VVm)(x:List Int):bP v 129 [71,69,84,45,83,84,65,84,69] x=cb v x:=by kernel_rfl
def Zi(v:VVm)(hv:dJ v):ab prog 166 [eVm v,i64 129] (tVm (doS v 129)):=by
 have hk:bm 129 (ao.getD (129:Int).toNat [])=1:=by kernel_rfl
 have hn:ao.getD (129:Int).toNat []=[71,69,84,45,83,84,65,84,69]:=by kernel_rfl
 rw[aH (by decide) (by decide),hk,hn,aa7]
 refine aZ v 129 1 367 [.row [fnP 39 []]] _ (by decide) (by decide) (by have:=hv.d;omega) hv.data (by decide) (by simp) (by rw[hn];exact iS 129 _ _ _ _ (by decide) (by simp) rfl rfl rfl rfl rfl rfl) (by(show List.length _<=_;simp[cb,bH,dy,fg,gg,gB,gh,bZ,bC,bh,dn,pUM,pM,dk,dq,dm,pSD,bB,bL])) (fun hk H i hi=>?_)
 have hx:=hv.x hk
 generalize v.d.drop (v.d.length-1)=x at hx ⊢
 exact⟨⟨_,func367,rfl,rfl⟩,xr 39 [] v x _ hx.len (by simp) (fun H=>⟨⟨_,func39,rfl,rfl⟩,(gH v.mem _ (gI hv.mem) (hx.fit 0)) H⟩) H i hi⟩
def Qa{n:Int}(h0:23<=n)(h1:n<=38):ao.getD n.toNat []∈pR:=by
 have:n=23\/n=24\/n=25\/n=26\/n=27\/n=28\/n=29\/n=30\/n=31\/n=32\/n=33\/n=34\/n=35\/n=36\/n=37\/n=38:=by omega
 rcases this with rfl|rfl|rfl|rfl|rfl|rfl|rfl|rfl|rfl|rfl|rfl|rfl|rfl|rfl|rfl|rfl<;>decide
def WG(v:VVm)(hv:dJ v)(n:Int):ab prog 166 [eVm v,i64 n] (tVm (doS v n)):=by
 by_cases h:23<=n/\n<=129
 ·by_cases h1:n<=38
  ·have hs:ao.getD n.toNat []∈pR:=Qa h.1 h1
   have e:doS v n=({v with d:=(dQ (ao.getD n.toNat []) v.d v.conf.data).1},(dQ (ao.getD n.toNat []) v.d v.conf.data).2.2):=by
    unfold doS;rw[if_neg (by omega)];simp only;rw[if_pos h1]
   rw[e]
   exact KB v n h.1 h1 hs (by have:=hv.d;omega) hv.data
  by_cases h2:n<=58
  ·exact ak9 v hv n (by omega) h2
  by_cases h3:n<=72
  ·exact ac6 v hv n (by omega) h3
  have:n=73\/n=74\/n=75\/n=76\/n=77\/n=78\/n=79\/n=80\/n=81\/n=82\/n=83\/n=84\/n=85\/n=86\/n=87\/n=88\/n=89\/n=90\/n=91\/n=92\/n=93\/n=94\/n=95\/n=96\/n=97\/n=98\/n=99\/n=100\/n=101\/n=102\/n=103\/n=104\/n=105\/n=106\/n=107\/n=108\/n=109\/n=110\/n=111\/n=112\/n=113\/n=114\/n=115\/n=116\/n=117\/n=118\/n=119\/n=120\/n=121\/n=122\/n=123\/n=124\/n=125\/n=126\/n=127\/n=128\/n=129:=by omega
  rcases this with rfl|rfl|rfl|rfl|rfl|rfl|rfl|rfl|rfl|rfl|rfl|rfl|rfl|rfl|rfl|rfl|rfl|rfl|rfl|rfl|rfl|rfl|rfl|rfl|rfl|rfl|rfl|rfl|rfl|rfl|rfl|rfl|rfl|rfl|rfl|rfl|rfl|rfl|rfl|rfl|rfl|rfl|rfl|rfl|rfl|rfl|rfl|rfl|rfl|rfl|rfl|rfl|rfl|rfl|rfl|rfl|rfl
  ·exact av0 v hv
  ·exact ax0 v hv
  ·exact aw7 v hv
  ·exact aB6 v hv
  ·exact ay7 v hv
  ·exact as9 v hv
  ·exact ax1 v hv
  ·exact au4 v hv
  ·exact az8 v hv
  ·exact aB0 v hv
  ·exact aA9 v hv
  ·exact ar6 v hv
  ·exact az1 v hv
  ·exact aq0 v hv
  ·exact aB5 v hv
  ·exact aB2 v hv
  ·exact aB9 v hv
  ·exact aw8 v hv
  ·exact aq6 v hv
  ·exact ap2 v hv
  ·exact aC3 v hv
  ·exact az7 v hv
  ·exact ay0 v hv
  ·exact av1 v hv
  ·exact az2 v hv
  ·exact ax3 v hv
  ·exact at3 v hv
  ·exact ac8 v hv
  ·exact aj3 v hv
  ·exact aa0 v hv
  ·exact ag3 v hv
  ·exact ai4 v hv
  ·exact ac4 v hv
  ·exact Zl v hv
  ·exact ZW v hv
  ·exact ad5 v hv
  ·exact Zj v hv
  ·exact al9 v hv
  ·exact ZV v hv
  ·exact Z6 v hv
  ·exact ah7 v hv
  ·exact aa4 v hv
  ·exact ak4 v hv
  ·exact ad8 v hv
  ·exact af2 v hv
  ·exact ZN v hv
  ·exact ak5 v hv
  ·exact al6 v hv
  ·exact aa6 v hv
  ·exact aj1 v hv
  ·exact ah9 v hv
  ·exact ah4 v hv
  ·exact ag9 v hv
  ·exact ak3 v hv
  ·exact ag0 v hv
  ·exact ab7 v hv
  exact Zi v hv
 have e:doS v n=(v,-24):=by unfold doS;rw[if_pos (by omega)]
 rw[e];exact ai3 v n h
def TW(v:VVm):Bool:=decide (eO v.conf/\mj v.mem=true/\iC v.dict=true/\eK v.pic/\(v.mem.b.length:Int)=v.conf.mem/\1368<=v.here/\v.here<=v.conf.mem)
def qE(f:jt):Bool:=decide (0<=f.d/\f.d<=256/\0<=f.r/\f.r<=256)
def FH(h:sz):Bool:=decide (0<=h.fuel)
def PC(v:VVm):Bool:=decide ((v.d.length:Int)<=v.conf.data/\(v.r.length:Int)<=v.conf.ret/\v.f.length<=64/\(v.dict.length:Int)<=v.conf.words/\(v.out.length:Int)<=v.conf.out/\v.req.length<=16/\0<=v.free/\v.free<=64/\0<=v.next/\v.next<=4611686018427387904/\v.hand.length<=64)
def FJ(v:VVm):Bool:=TW v&&(v.f.all qE&&(v.hand.all FH&&PC v))
def SX(n:Int):ae (wrap64 n):=gS n
def Hf(n:Nat):ae (S n):=Yz n
def jP:ae 0:=by unfold ae;omega
def wW(b:Bool):ae (fH b):=by unfold fH ae;split<;>omega
def Iz{a b:Int}(hb:ae b)(h0:b≠0):ae (a.fmod b):=by
 unfold ae at hb ⊢
 rw[Int.fmod_eq_emod]
 have h1:=Int.emod_nonneg a h0
 have h2:a%b<b.natAbs:=by
  rcases Int.lt_or_gt_of_ne h0 with h|h
  ·have:=Int.emod_lt_of_pos a (show 0 < -b by omega);rw[Int.emod_neg]at this;omega
  have:=Int.emod_lt_of_pos a h;omega
 split<;>omega
def Su{a b:Int}(hb:ae b)(h0:b≠0):ae (a.tmod b):=by
 unfold ae at hb ⊢
 have h1:(a.tmod b).natAbs=a.natAbs%b.natAbs:=Int.natAbs_tmod a b
 have h2:a.natAbs%b.natAbs<b.natAbs:=Nat.mod_lt _ (by omega)
 omega
def Ce{n:Int}(h:gE n=true):ae n:=by unfold gE at h;unfold ae;simpa using h
def y4{a b:Int}(hb:ae b):ae (nG a b).1/\ae (nG a b).2.1:=by
 unfold nG
 split
 ·exact⟨jP,jP⟩
 rename_i h0;exact⟨SX _,Iz hb h0⟩
def ss{lo hi d:Int}(hd:ae d):ae (jL lo hi d).1/\ae (jL lo hi d).2.1:=by
 unfold jL
 split
 ·exact⟨jP,jP⟩
 rename_i h0
 split
 ·rename_i h1;exact⟨Ce h1,Iz hd h0⟩
 exact⟨jP,jP⟩
def Gm{lo hi d:Int}(hd:ae d):ae (lD lo hi d).1/\ae (lD lo hi d).2.1:=by
 unfold lD
 split
 ·exact⟨jP,jP⟩
 rename_i h0
 split
 ·rename_i h1;exact⟨Ce h1,Su hd h0⟩
 exact⟨jP,jP⟩
def vJ{lo hi d:Int}:ae (iH lo hi d).1/\ae (iH lo hi d).2.1:=by
 unfold iH
 split
 ·exact⟨jP,jP⟩
 split
 ·exact⟨jP,jP⟩
 exact⟨Hf _,Hf _⟩
def OI(a b:Int)(up:Bool):ae (qG a b up):=by
 unfold qG
 split
 ·exact jP
 split<;>exact Hf _
def Wp(o:Op1){a:Int}(ha:ae a):ae (one o a):=by
 unfold ae at *
 cases o<;>simp only[one]<;>first|exact gS _|exact wW _|(split<;>first|exact gS _|omega)|omega
def XC(o:Op2){a b:Int}(ha:ae a)(hb:ae b):ae (two o a b).1:=by
 cases o<;>simp only[two]<;>first|exact(y4 hb).1|exact(y4 hb).2|exact SX _|exact OI _ _ _|exact wW _|(split<;>assumption)
def PO(name:Str){a:Int}(ha:ae a):ae (wI name a).1:=by
 unfold wI
 split
 ·exact Wp _ ha
 exact jP
def PE(name:Str){a b:Int}(ha:ae a)(hb:ae b):ae (mi name a b).1:=by
 unfold mi
 split
 ·exact XC _ ha hb
 exact jP
def tS(m:bn)(a:Int):ae (am m a).1:=by
 unfold am Jk
 split
 ·exact SX _
 exact jP
def AD(m:bn)(a:Int):ae (ea m a).1:=by
 unfold ea
 split
 ·have:=(m.b.getD a.toNat 0).toNat_lt;unfold ae;simp only;omega
 exact jP
structure dP (m m':bn) (k:Nat):Prop where
 right:mj m=true->mj m'=true
 len:m'.b.length=m.b.length
 old:m'.old.length<=m.old.length+k
def dP.refl(m:bn)(k:Nat):dP m m k:=⟨id,rfl,Nat.le_add_right _ _⟩
def dP.trans{a b c:bn}{i j:Nat}(h:dP a b i)(g:dP b c j):dP a c (i+j):=⟨fun q=>g.right (h.right q),g.len.trans h.len,by have:=h.old;have:=g.old;omega⟩
def dP.up{a b:bn}{i j:Nat}(h:dP a b i)(hij:i<=j):dP a b j:=⟨h.right,h.len,by have:=h.old;omega⟩
def CH{m m':bn}(h:m'.b.length=m.b.length)(a n:Int):bt m' a n=bt m a n:=by unfold bt;rw[h]
def kI(m:bn)(a:Int)(b:List UInt8):dP m (cn m a b).1 1:=by
 have hl:=ww m a b
 refine⟨fun h=>?_,hl,wN m a b⟩
 unfold mj at h ⊢
 rw[hl]
 rw[Bool.and_eq_true]at h ⊢
 refine⟨?_,h.2⟩
 have hall:∀p∈m.old,bt (cn m a b).1 p.place p.old.length=true:=fun p hp=>by rw[CH hl];exact List.all_eq_true.1 h.1 p hp
 rw[List.all_eq_true]
 intro p hp
 unfold cn at hp
 split at hp
 ·rename_i ht
  split at hp
  ·exact hall p hp
  rcases List.mem_append.1 hp with hp|hp
  ·exact hall p hp
  simp only[List.mem_singleton]at hp
  subst hp
  rw[CH hl]
  simp only[List.length_take,List.length_drop]
  rcases wn ht with h0|⟨h0,h1,h2⟩
  ·unfold bt;exact decide_eq_true (.inl (by omega))
  unfold bt;exact decide_eq_true (.inr ⟨by omega,h1,by omega⟩)
 exact hall p hp
def cP(m:bn)(a n:Int):dP m (ay m a n).1 1:=by
 unfold ay;split
 ·exact kI _ _ _
 exact .refl _ _
def Jb(m:bn)(a n c:Int):dP m (nB m a n c).1 1:=by
 unfold nB;split
 ·exact kI _ _ _
 exact .refl _ _
def K6(m:bn)(a b n:Int):dP m (ny m a b n).1 1:=by
 unfold ny;split
 ·exact kI _ _ _
 exact .refl _ _
def ij{m:bn}{here:Int}(b:List UInt8):dP m (dg m here b).1 1:=by
 unfold dg;split
 ·exact .refl _ _
 exact kI _ _ _
def iL{m:bn}{here:Int}(b:List UInt8)(h0:1368<=here)(h1:here<=m.b.length):1368<=(dg m here b).2.1/\(dg m here b).2.1<=m.b.length:=by
 unfold dg;split
 ·exact⟨h0,h1⟩
 simp only;omega
def uN{p:d8}(c:Int)(h:eK p):eK (gX p c).1:=by
 unfold gX;split
 ·rename_i hc;exact⟨by simp;omega,.inl hc.1⟩
 exact h
def sW{p:d8}(lo hi base:Int)(h:eK p):eK (aJ p lo hi base).1:=by
 unfold aJ;split
 ·exact h
 split
 ·exact uN _ h
 exact h
def Bf(base:Int):∀(n:Nat) {q:d8} (lo hi:Int),eK q->eK (rF n q lo hi base).1
 | 0,q,lo,hi,h=>h
 | n+1,q,lo,hi,h=>by
  unfold rF
  split
  ·exact h
  split
  ·exact sW _ _ _ h
  exact Bf base n _ _ (sW _ _ _ h)
def N8{p:d8}(lo hi base:Int)(h:eK p):eK (uU p lo hi base).1:=by
 unfold uU Pn
 split
 ·exact Bf base _ _ _ h
 exact h
def Kq{p:d8}(n:Int)(h:eK p):eK (oZ p n).1:=by
 unfold oZ;split
 ·exact h
 exact uN _ h
def CY{p:d8}{lo hi base:Int}(hl:ae lo)(hh:ae hi):ae (aJ p lo hi base).2.1/\ae (aJ p lo hi base).2.2.1:=by
 unfold aJ;split
 ·exact⟨hl,hh⟩
 split
 ·exact⟨vJ.1,vJ.1⟩
 exact⟨hl,hh⟩
end Go.Proofs.YtjcminooghmpeaaGreatDoor
