import Derived.Test.YtjcminooghmpeaaGreatDoorPk6
set_option linter.all false
set_option maxRecDepth 100000
set_option maxHeartbeats 40000000
open Go.Proofs.Tryz
namespace Go.Proofs.YtjcminooghmpeaaGreatDoor
open Go.RowKit
def rkK:List fG:=[.s [47,77,79,68],.s [42,47,77,79,68],.s [42,47],.s [85,77,42],.s [77,42],.s [85,77,47,77,79,68],.s [83,77,47,82,69,77],.s [70,77,47,77,79,68],.s [83,62,68],.s [87,73,84,72,73,78]]
def rkV:List PV:=[bm 2 271 [.row [fnP 280 pc]],bm 3 271 [.row [fnP 281 FP]],bm 3 271 [.row [fnP 282 RB]],bm 2 271 [.row [fnP 283 []]],bm 2 271 [.row [fnP 285 []]],bm 3 271 [.row [fnP 286 pc]],bm 3 271 [.row [fnP 288 pc]],bm 3 271 [.row [fnP 290 pc]],bm 1 271 [.row [fnP 291 []]],bm 3 271 [.row [fnP 293 []]]]
theorem WV:aS (.smap rkK rkV):=by
 unfold aS rkV
 simp
theorem jg:ab prog 246 [] (.smap rkK rkV):=by
 refine bw tG (rs:=[.tmp 0]) func246 rfl rfl rfl (by simp;done) (by exact WV) (fun B=>?_)
 refine zu1 ?_
 refine zp2 ?_
 refine bP 1 _ rfl rfl rfl ?_
 refine Wn<|zp2 ?_
 refine bP 2 _ rfl rfl rfl ?_
 refine z0 ?_
 refine Wd rfl rfl (dq rfl) ?_
 refine z1 ?_
 refine zc rfl func240 ((jt 2 280 pc (by simp)) _) ?_
 refine zD 267 (.s [47,77,79,68]) ?_
 refine z1 ?_
 refine zc rfl func240 ((jt 3 281 FP (by simp)) _) ?_
 refine zD 267 (.s [42,47,77,79,68]) ?_
 refine z1 ?_
 refine zc rfl func240 ((jt 3 282 RB (by simp)) _) ?_
 refine zD 267 (.s [42,47]) ?_
 refine zc rfl func240 ((jt 2 283 [] (by simp)) _) ?_
 refine zD 267 (.s [85,77,42]) ?_
 refine zc rfl func240 ((jt 2 285 [] (by simp)) _) ?_
 refine zD 267 (.s [77,42]) ?_
 refine z1 ?_
 refine zc rfl func240 ((jt 3 286 pc (by simp)) _) ?_
 refine zD 267 (.s [85,77,47,77,79,68]) ?_
 refine z1 ?_
 refine zc rfl func240 ((jt 3 288 pc (by simp)) _) ?_
 refine zD 267 (.s [83,77,47,82,69,77]) ?_
 refine z1 ?_
 refine zc rfl func240 ((jt 3 290 pc (by simp)) _) ?_
 refine zD 267 (.s [70,77,47,77,79,68]) ?_
 refine zc rfl func240 ((jt 1 291 [] (by simp)) _) ?_
 refine zD 267 (.s [83,62,68]) ?_
 refine zc rfl func240 ((jt 3 293 [] (by simp)) _) ?_
 refine zD 267 (.s [87,73,84,72,73,78]) ?_
 refine z1 ?_
 refine ey 20 _ rfl rfl rfl ?_
 refine zs1 ?_
 refine zR ?_
 rfl
def meK:List fG:=[.s [64],.s [67,64],.s [33],.s [67,33],.s [43,33],.s [50,64],.s [50,33],.s [70,73,76,76],.s [77,79,86,69],.s [67,79,85,78,84]]
def meV:List PV:=[bm 1 367 [.row [fnP 39 []]],bm 1 367 [.row [fnP 296 []]],bm 2 368 [.row [fnP 298 []]],bm 2 368 [.row [fnP 299 []]],bm 2 368 [.row [fnP 301 []]],bm 1 302 [],bm 3 368 [.row [fnP 303 []]],bm 3 368 [.row [fnP 304 []]],bm 3 368 [.row [fnP 306 []]],bm 1 308 []]
theorem V1:aS (.smap meK meV):=by
 unfold aS meV
 simp
theorem iB:ab prog 247 [] (.smap meK meV):=by
 refine bw tG (rs:=[.tmp 0]) func247 rfl rfl rfl (by simp;done) (by exact V1) (fun B=>?_)
 refine zu1 ?_
 refine z8 ?_
 refine Wd rfl rfl (dq rfl) ?_
 refine zc rfl func295 ((uX 39 [] (by simp)) _) ?_
 refine zD 267 (.s [64]) ?_
 refine zc rfl func295 ((uX 296 [] (by simp)) _) ?_
 refine zD 267 (.s [67,64]) ?_
 refine zc rfl func297 ((lu 2 298 [] (by simp)) _) ?_
 refine zD 267 (.s [33]) ?_
 refine zc rfl func297 ((lu 2 299 [] (by simp)) _) ?_
 refine zD 267 (.s [67,33]) ?_
 refine zc rfl func297 ((lu 2 301 [] (by simp)) _) ?_
 refine zD 267 (.s [43,33]) ?_
 refine z1 ?_
 refine zD 267 (.s [50,64]) ?_
 refine zc rfl func297 ((lu 3 303 [] (by simp)) _) ?_
 refine zD 267 (.s [50,33]) ?_
 refine zc rfl func297 ((lu 3 304 [] (by simp)) _) ?_
 refine zD 267 (.s [70,73,76,76]) ?_
 refine zc rfl func297 ((lu 3 306 [] (by simp)) _) ?_
 refine zD 267 (.s [77,79,86,69]) ?_
 refine z1 ?_
 refine zD 267 (.s [67,79,85,78,84]) ?_
 refine z1 ?_
 refine ey 12 _ rfl rfl rfl ?_
 refine zs1 ?_
 refine zR ?_
 rfl
def spK:List fG:=[.s [72,69,82,69],.s [65,76,76,79,84],.s [44],.s [67,44],.s [65,76,73,71,78],.s [66,65,83,69],.s [83,84,65,84,69],.s [84,82,85,69],.s [70,65,76,83,69],.s [66,76],.s [68,69,67,73,77,65,76],.s [72,69,88]]
def spV:List PV:=[bm 0 370 [.row [fnP 315 []]],bm 1 371 [.row [fnP 317 []]],bm 1 371 [.row [fnP 319 []]],bm 1 371 [.row [fnP 320 []]],bm 0 371 [.row [fnP 321 []]],bm 0 370 [.row [fnP 314 [.row [i64 (0)]]]],bm 0 370 [.row [fnP 314 [.row [i64 (8)]]]],bm 0 370 [.row [fnP 314 [.row [i64 (-1)]]]],bm 0 370 [.row [fnP 314 [.row [i64 (0)]]]],bm 0 370 [.row [fnP 314 [.row [i64 (32)]]]],bm 0 310 [.row [i64 10]],bm 0 310 [.row [i64 16]]]
theorem W1:aS (.smap spK spV):=by
 unfold aS spV
 simp
theorem j6:ab prog 248 [] (.smap spK spV):=by
 refine bw tG (rs:=[.tmp 0]) func248 rfl rfl rfl (by simp;done) (by exact W1) (fun B=>?_)
 refine zu1 ?_
 refine zu1 ?_
 refine zu1 ?_
 refine z8 ?_
 refine Wd rfl rfl (dq rfl) ?_
 refine zc rfl func313 ((sD 315 [] (by simp)) _) ?_
 refine zD 267 (.s [72,69,82,69]) ?_
 refine zc rfl func316 ((yw 1 317 [] (by simp)) _) ?_
 refine zD 267 (.s [65,76,76,79,84]) ?_
 refine zc rfl func316 ((yw 1 319 [] (by simp)) _) ?_
 refine zD 267 (.s [44]) ?_
 refine zc rfl func316 ((yw 1 320 [] (by simp)) _) ?_
 refine zD 267 (.s [67,44]) ?_
 refine zc rfl func316 ((yw 0 321 [] (by simp)) _) ?_
 refine zD 267 (.s [65,76,73,71,78]) ?_
 refine z1 ?_
 refine Wc rfl rfl (dW rfl rfl func312 rfl rfl (o8 (0) _)) ?_
 refine zD 267 (.s [66,65,83,69]) ?_
 refine z1 ?_
 refine Wc rfl rfl (dW rfl rfl func312 rfl rfl (o8 (8) _)) ?_
 refine zD 267 (.s [83,84,65,84,69]) ?_
 refine z1 ?_
 refine Wc rfl rfl (dW rfl rfl func312 rfl rfl (o8 (-1) _)) ?_
 refine zD 267 (.s [84,82,85,69]) ?_
 refine z1 ?_
 refine Wc rfl rfl (dW rfl rfl func312 rfl rfl (o8 (0) _)) ?_
 refine zD 267 (.s [70,65,76,83,69]) ?_
 refine z1 ?_
 refine Wc rfl rfl (dW rfl rfl func312 rfl rfl (o8 (32) _)) ?_
 refine zD 267 (.s [66,76]) ?_
 refine z1 ?_
 refine Wc rfl rfl (dW rfl rfl func309 rfl rfl (K3 10 _)) ?_
 refine zD 267 (.s [68,69,67,73,77,65,76]) ?_
 refine z1 ?_
 refine Wc rfl rfl (dW rfl rfl func309 rfl rfl (K3 16 _)) ?_
 refine zD 267 (.s [72,69,88]) ?_
 refine z1 ?_
 refine ey 23 _ rfl rfl rfl ?_
 refine zs1 ?_
 refine zR ?_
 rfl
def prK:List fG:=[.s [69,77,73,84],.s [67,82],.s [83,80,65,67,69],.s [83,80,65,67,69,83],.s [84,89,80,69],.s [46],.s [85,46]]
def prV:List PV:=[bm 1 372 [.row [fnP 328 []]],bm 0 372 [.row [fnP 327 [.row [str [10]]]]],bm 0 372 [.row [fnP 327 [.row [str [32]]]]],bm 1 372 [.row [fnP 329 []]],bm 2 372 [.row [fnP 331 []]],bm 1 372 [.row [fnP 324 [.row [fnP 332 []]]]],bm 1 372 [.row [fnP 324 [.row [fnP 333 []]]]]]
theorem V4:aS (.smap prK prV):=by
 unfold aS prV
 simp
theorem j4:ab prog 249 [] (.smap prK prV):=by
 refine bw tG (rs:=[.tmp 0]) func249 rfl rfl rfl (by simp;done) (by exact V4) (fun B=>?_)
 refine zu1 ?_
 refine zu1 ?_
 refine zu1 ?_
 refine z8 ?_
 refine Wd rfl rfl (dq rfl) ?_
 refine zc rfl func323 ((vM 1 328 [] (by simp)) _) ?_
 refine zD 267 (.s [69,77,73,84]) ?_
 refine z1 ?_
 refine Wc rfl rfl (dW rfl rfl func326 rfl rfl (LV [10] _)) ?_
 refine zD 267 (.s [67,82]) ?_
 refine z1 ?_
 refine Wc rfl rfl (dW rfl rfl func326 rfl rfl (LV [32] _)) ?_
 refine zD 267 (.s [83,80,65,67,69]) ?_
 refine zc rfl func323 ((vM 1 329 [] (by simp)) _) ?_
 refine zD 267 (.s [83,80,65,67,69,83]) ?_
 refine zc rfl func323 ((vM 2 331 [] (by simp)) _) ?_
 refine zD 267 (.s [84,89,80,69]) ?_
 refine z1 ?_
 refine Wc rfl rfl (dW rfl rfl func322 rfl rfl (Db 332 [] (by simp) _)) ?_
 refine zD 267 (.s [46]) ?_
 refine z1 ?_
 refine Wc rfl rfl (dW rfl rfl func322 rfl rfl (Db 333 [] (by simp) _)) ?_
 refine zD 267 (.s [85,46]) ?_
 refine z1 ?_
 refine ey 15 _ rfl rfl rfl ?_
 refine zs1 ?_
 refine zR ?_
 rfl
def piK:List fG:=[.s [60,35],.s [35],.s [35,83],.s [72,79,76,68],.s [83,73,71,78],.s [35,62]]
def piV:List PV:=[bm 0 336 [],bm 2 338 [],bm 2 340 [],bm 1 335 [.row [fnP 342 []]],bm 1 335 [.row [fnP 343 []]],bm 2 344 []]
theorem VZ:aS (.smap piK piV):=by
 unfold aS piV
 simp
theorem np:ab prog 250 [] (.smap piK piV):=by
 refine bw tG (rs:=[.tmp 0]) func250 rfl rfl rfl (by simp;done) (by exact VZ) (fun B=>?_)
 refine zu1 ?_
 refine zu1 ?_
 refine z8 ?_
 refine Wd rfl rfl (dq rfl) ?_
 refine z1 ?_
 refine zD 267 (.s [60,35]) ?_
 refine z1 ?_
 refine zD 267 (.s [35]) ?_
 refine z1 ?_
 refine zD 267 (.s [35,83]) ?_
 refine z1 ?_
 refine Wc rfl rfl (dW rfl rfl func334 rfl rfl (RD 342 [] (by simp) _)) ?_
 refine zD 267 (.s [72,79,76,68]) ?_
 refine z1 ?_
 refine Wc rfl rfl (dW rfl rfl func334 rfl rfl (RD 343 [] (by simp) _)) ?_
 refine zD 267 (.s [83,73,71,78]) ?_
 refine z1 ?_
 refine zD 267 (.s [35,62]) ?_
 refine z1 ?_
 refine ey 11 _ rfl rfl rfl ?_
 refine zs1 ?_
 refine zR ?_
 rfl
def otK:List fG:=[.s [62,66,79,68,89],.s [65,66,79,82,84],.s [80,79,83,84],.s [65,70,84,69,82],.s [69,86,69,82,89],.s [67,65,78,67,69,76],.s [65,82,71],.s [83,69,76,70],.s [78,79,87],.s [83,69,84,45,83,84,65,84,69],.s [65,84,45,83,84,65,84,69],.s [71,69,84,45,83,84,65,84,69]]
def otV:List PV:=[bm 1 346 [],bm 0 271 [.row [fnP 347 []]],bm 3 383 [.row [i64 1],.row [i64 3]],bm 4 383 [.row [i64 2],.row [i64 4]],bm 4 383 [.row [i64 3],.row [i64 4]],bm 1 383 [.row [i64 4],.row [i64 1]],bm 0 370 [.row [fnP 349 []]],bm 0 370 [.row [fnP 350 []]],bm 0 370 [.row [fnP 351 []]],bm 2 352 [],bm 3 354 [],bm 1 367 [.row [fnP 39 []]]]
theorem UU:aS (.smap otK otV):=by
 unfold aS otV
 simp
theorem Hs:ab prog 251 [] (.smap otK otV):=by
 refine bw tG (rs:=[.tmp 0]) func251 rfl rfl rfl (by simp;done) (by exact UU) (fun B=>?_)
 refine zu1 ?_
 refine z8 ?_
 refine Wd rfl rfl (dq rfl) ?_
 refine z1 ?_
 refine zD 267 (.s [62,66,79,68,89]) ?_
 refine zc rfl func240 ((jt 0 347 [] (by simp)) _) ?_
 refine zD 267 (.s [65,66,79,82,84]) ?_
 refine zc rfl func348 ((Qc) _) ?_
 refine zD 267 (.s [80,79,83,84]) ?_
 refine zc rfl func348 ((Ps) _) ?_
 refine zD 267 (.s [65,70,84,69,82]) ?_
 refine zc rfl func348 ((OU) _) ?_
 refine zD 267 (.s [69,86,69,82,89]) ?_
 refine zc rfl func348 ((O2) _) ?_
 refine zD 267 (.s [67,65,78,67,69,76]) ?_
 refine zc rfl func313 ((sD 349 [] (by simp)) _) ?_
 refine zD 267 (.s [65,82,71]) ?_
 refine zc rfl func313 ((sD 350 [] (by simp)) _) ?_
 refine zD 267 (.s [83,69,76,70]) ?_
 refine zc rfl func313 ((sD 351 [] (by simp)) _) ?_
 refine zD 267 (.s [78,79,87]) ?_
 refine z1 ?_
 refine zD 267 (.s [83,69,84,45,83,84,65,84,69]) ?_
 refine z1 ?_
 refine zD 267 (.s [65,84,45,83,84,65,84,69]) ?_
 refine zc rfl func295 ((uX 39 [] (by simp)) _) ?_
 refine zD 267 (.s [71,69,84,45,83,84,65,84,69]) ?_
 refine z1 ?_
 refine ey 14 _ rfl rfl rfl ?_
 refine zs1 ?_
 refine zR ?_
 rfl
abbrev eG:PV:=.agg [i64 0,.val .nilFunc]
theorem jI(n:Int)(name:Str)(k:Int)(f:FuncId)(cap:List PV)(hn:72<n)(hc:ay cap)(h0:gN rkK rkV (.s name) eG=(bm k f cap,true)):ab prog 200 [i64 n,str name] (bm k f cap):=by
 refine bw tG (rs:=[.cell 4 267]) func200 rfl rfl rfl (by simp[hc]) (by simp[hc]) (fun B=>?_)
 refine zu2 ?_
 refine Ws<|Wl<|zu3 ?_
 refine Wf rfl (by exact decide_eq_false (by omega)) ?_
 refine zu3 ?_
 refine Wf rfl (by exact decide_eq_false (by omega)) ?_
 refine Wj<|Ws<|z8 ?_
 refine zc rfl func246 ((jg) _) ?_
 refine zc rfl func247 ((iB) _) ?_
 refine zc rfl func248 ((j6) _) ?_
 refine zc rfl func249 ((j4) _) ?_
 refine zc rfl func250 ((np) _) ?_
 refine zs2 ?_
 refine Wl<|jJ 7 ?_
 show W _ _ _ _ _ _ _
 refine zu1 ?_
 refine Ws<|Wt rfl (by rfl) ?_
 refine Wj<|Ws<|Wl<|z8 ?_
 refine z2 ?_ (q:=(by decide))
 refine zs1 ?_
 refine zp2 ?_
 refine Wd rfl rfl (ba (b:=true) (e:=267) (key:=.s name) (by kernel_rfl) (lO tG rfl) (by kernel_rfl) rfl rfl rfl rfl (by kernel_rfl) ((by exact h0))) ?_
 refine zy5 ?_
 refine zs1 ?_
 refine zu1 ?_
 refine Wt rfl (by rfl) ?_
 refine zu2 ?_
 refine zR ?_
 rfl
theorem jM(n:Int)(name:Str)(k:Int)(f:FuncId)(cap:List PV)(hn:72<n)(hc:ay cap)(h0:gN rkK rkV (.s name) eG=(eG,false))(h1:gN meK meV (.s name) eG=(bm k f cap,true)):ab prog 200 [i64 n,str name] (bm k f cap):=by
 refine bw tG (rs:=[.cell 4 267]) func200 rfl rfl rfl (by simp[hc]) (by simp[hc]) (fun B=>?_)
 refine zu2 ?_
 refine Ws<|Wl<|zu3 ?_
 refine Wf rfl (by exact decide_eq_false (by omega)) ?_
 refine zu3 ?_
 refine Wf rfl (by exact decide_eq_false (by omega)) ?_
 refine Wj<|Ws<|z8 ?_
 refine zc rfl func246 ((jg) _) ?_
 refine zc rfl func247 ((iB) _) ?_
 refine zc rfl func248 ((j6) _) ?_
 refine zc rfl func249 ((j4) _) ?_
 refine zc rfl func250 ((np) _) ?_
 refine zs2 ?_
 refine Wl<|jJ 7 ?_
 show W _ _ _ _ _ _ _
 refine zu1 ?_
 refine Ws<|Wt rfl (by rfl) ?_
 refine Wj<|Ws<|Wl<|z8 ?_
 refine z2 ?_ (q:=(by decide))
 refine zs1 ?_
 refine zp2 ?_
 refine Wd rfl rfl (ba (b:=true) (e:=267) (key:=.s name) (by kernel_rfl) (lO tG rfl) (by kernel_rfl) rfl rfl rfl rfl (by kernel_rfl) ((by exact h0))) ?_
 refine zy5 ?_
 refine zs1 ?_
 refine zu1 ?_
 refine Wf rfl (by rfl) ?_
 refine Wj<|aa rfl ?_
 refine z1 ?_
 refine Wa 36 rfl (show _=PV.val (.int .i64 1) from rfl) ?_
 refine zs1 ?_
 show W _ _ _ _ _ _ _
 refine zu1 ?_
 refine Ws<|Wt rfl (by rfl) ?_
 refine Wj<|Ws<|Wl<|z8 ?_
 refine z2 ?_ (q:=(by decide))
 refine zs1 ?_
 refine zp2 ?_
 refine Wd rfl rfl (ba (b:=true) (e:=267) (key:=.s name) (by kernel_rfl) (lO tG rfl) (by kernel_rfl) rfl rfl rfl rfl (by kernel_rfl) ((by exact h1))) ?_
 refine zy5 ?_
 refine zs1 ?_
 refine zu1 ?_
 refine Wt rfl (by rfl) ?_
 refine zu2 ?_
 refine zR ?_
 rfl
theorem ir(n:Int)(name:Str)(k:Int)(f:FuncId)(cap:List PV)(hn:72<n)(hc:ay cap)(h0:gN rkK rkV (.s name) eG=(eG,false))(h1:gN meK meV (.s name) eG=(eG,false))(h2:gN spK spV (.s name) eG=(bm k f cap,true)):ab prog 200 [i64 n,str name] (bm k f cap):=by
 refine bw tG (rs:=[.cell 4 267]) func200 rfl rfl rfl (by simp[hc]) (by simp[hc]) (fun B=>?_)
 refine zu2 ?_
 refine Ws<|Wl<|zu3 ?_
 refine Wf rfl (by exact decide_eq_false (by omega)) ?_
 refine zu3 ?_
 refine Wf rfl (by exact decide_eq_false (by omega)) ?_
 refine Wj<|Ws<|z8 ?_
 refine zc rfl func246 ((jg) _) ?_
 refine zc rfl func247 ((iB) _) ?_
 refine zc rfl func248 ((j6) _) ?_
 refine zc rfl func249 ((j4) _) ?_
 refine zc rfl func250 ((np) _) ?_
 refine zs2 ?_
 refine Wl<|jJ 7 ?_
 show W _ _ _ _ _ _ _
 refine zu1 ?_
 refine Ws<|Wt rfl (by rfl) ?_
 refine Wj<|Ws<|Wl<|z8 ?_
 refine z2 ?_ (q:=(by decide))
 refine zs1 ?_
 refine zp2 ?_
 refine Wd rfl rfl (ba (b:=true) (e:=267) (key:=.s name) (by kernel_rfl) (lO tG rfl) (by kernel_rfl) rfl rfl rfl rfl (by kernel_rfl) ((by exact h0))) ?_
 refine zy5 ?_
 refine zs1 ?_
 refine zu1 ?_
 refine Wf rfl (by rfl) ?_
 refine Wj<|aa rfl ?_
 refine z1 ?_
 refine Wa 36 rfl (show _=PV.val (.int .i64 1) from rfl) ?_
 refine zs1 ?_
 show W _ _ _ _ _ _ _
 refine zu1 ?_
 refine Ws<|Wt rfl (by rfl) ?_
 refine Wj<|Ws<|Wl<|z8 ?_
 refine z2 ?_ (q:=(by decide))
 refine zs1 ?_
 refine zp2 ?_
 refine Wd rfl rfl (ba (b:=true) (e:=267) (key:=.s name) (by kernel_rfl) (lO tG rfl) (by kernel_rfl) rfl rfl rfl rfl (by kernel_rfl) ((by exact h1))) ?_
 refine zy5 ?_
 refine zs1 ?_
 refine zu1 ?_
 refine Wf rfl (by rfl) ?_
 refine Wj<|aa rfl ?_
 refine z1 ?_
 refine Wa 36 rfl (show _=PV.val (.int .i64 2) from rfl) ?_
 refine zs1 ?_
 show W _ _ _ _ _ _ _
 refine zu1 ?_
 refine Ws<|Wt rfl (by rfl) ?_
 refine Wj<|Ws<|Wl<|z8 ?_
 refine z2 ?_ (q:=(by decide))
 refine zs1 ?_
 refine zp2 ?_
 refine Wd rfl rfl (ba (b:=true) (e:=267) (key:=.s name) (by kernel_rfl) (lO tG rfl) (by kernel_rfl) rfl rfl rfl rfl (by kernel_rfl) ((by exact h2))) ?_
 refine zy5 ?_
 refine zs1 ?_
 refine zu1 ?_
 refine Wt rfl (by rfl) ?_
 refine zu2 ?_
 refine zR ?_
 rfl
theorem nK(n:Int)(name:Str)(k:Int)(f:FuncId)(cap:List PV)(hn:72<n)(hc:ay cap)(h0:gN rkK rkV (.s name) eG=(eG,false))(h1:gN meK meV (.s name) eG=(eG,false))(h2:gN spK spV (.s name) eG=(eG,false))(h3:gN prK prV (.s name) eG=(bm k f cap,true)):ab prog 200 [i64 n,str name] (bm k f cap):=by
 refine bw tG (rs:=[.cell 4 267]) func200 rfl rfl rfl (by simp[hc]) (by simp[hc]) (fun B=>?_)
 refine zu2 ?_
 refine Ws<|Wl<|zu3 ?_
 refine Wf rfl (by exact decide_eq_false (by omega)) ?_
 refine zu3 ?_
 refine Wf rfl (by exact decide_eq_false (by omega)) ?_
 refine Wj<|Ws<|z8 ?_
 refine zc rfl func246 ((jg) _) ?_
 refine zc rfl func247 ((iB) _) ?_
 refine zc rfl func248 ((j6) _) ?_
 refine zc rfl func249 ((j4) _) ?_
 refine zc rfl func250 ((np) _) ?_
 refine zs2 ?_
 refine Wl<|jJ 7 ?_
 show W _ _ _ _ _ _ _
 refine zu1 ?_
 refine Ws<|Wt rfl (by rfl) ?_
 refine Wj<|Ws<|Wl<|z8 ?_
 refine z2 ?_ (q:=(by decide))
 refine zs1 ?_
 refine zp2 ?_
 refine Wd rfl rfl (ba (b:=true) (e:=267) (key:=.s name) (by kernel_rfl) (lO tG rfl) (by kernel_rfl) rfl rfl rfl rfl (by kernel_rfl) ((by exact h0))) ?_
 refine zy5 ?_
 refine zs1 ?_
 refine zu1 ?_
 refine Wf rfl (by rfl) ?_
 refine Wj<|aa rfl ?_
 refine z1 ?_
 refine Wa 36 rfl (show _=PV.val (.int .i64 1) from rfl) ?_
 refine zs1 ?_
 show W _ _ _ _ _ _ _
 refine zu1 ?_
 refine Ws<|Wt rfl (by rfl) ?_
 refine Wj<|Ws<|Wl<|z8 ?_
 refine z2 ?_ (q:=(by decide))
 refine zs1 ?_
 refine zp2 ?_
 refine Wd rfl rfl (ba (b:=true) (e:=267) (key:=.s name) (by kernel_rfl) (lO tG rfl) (by kernel_rfl) rfl rfl rfl rfl (by kernel_rfl) ((by exact h1))) ?_
 refine zy5 ?_
 refine zs1 ?_
 refine zu1 ?_
 refine Wf rfl (by rfl) ?_
 refine Wj<|aa rfl ?_
 refine z1 ?_
 refine Wa 36 rfl (show _=PV.val (.int .i64 2) from rfl) ?_
 refine zs1 ?_
 show W _ _ _ _ _ _ _
 refine zu1 ?_
 refine Ws<|Wt rfl (by rfl) ?_
 refine Wj<|Ws<|Wl<|z8 ?_
 refine z2 ?_ (q:=(by decide))
 refine zs1 ?_
 refine zp2 ?_
 refine Wd rfl rfl (ba (b:=true) (e:=267) (key:=.s name) (by kernel_rfl) (lO tG rfl) (by kernel_rfl) rfl rfl rfl rfl (by kernel_rfl) ((by exact h2))) ?_
 refine zy5 ?_
 refine zs1 ?_
 refine zu1 ?_
 refine Wf rfl (by rfl) ?_
 refine Wj<|aa rfl ?_
 refine z1 ?_
 refine Wa 36 rfl (show _=PV.val (.int .i64 3) from rfl) ?_
 refine zs1 ?_
 show W _ _ _ _ _ _ _
 refine zu1 ?_
 refine Ws<|Wt rfl (by rfl) ?_
 refine Wj<|Ws<|Wl<|z8 ?_
 refine z2 ?_ (q:=(by decide))
 refine zs1 ?_
 refine zp2 ?_
 refine Wd rfl rfl (ba (b:=true) (e:=267) (key:=.s name) (by kernel_rfl) (lO tG rfl) (by kernel_rfl) rfl rfl rfl rfl (by kernel_rfl) ((by exact h3))) ?_
 refine zy5 ?_
 refine zs1 ?_
 refine zu1 ?_
 refine Wt rfl (by rfl) ?_
 refine zu2 ?_
 refine zR ?_
 rfl
theorem pm(n:Int)(name:Str)(k:Int)(f:FuncId)(cap:List PV)(hn:72<n)(hc:ay cap)(h0:gN rkK rkV (.s name) eG=(eG,false))(h1:gN meK meV (.s name) eG=(eG,false))(h2:gN spK spV (.s name) eG=(eG,false))(h3:gN prK prV (.s name) eG=(eG,false))(h4:gN piK piV (.s name) eG=(bm k f cap,true)):ab prog 200 [i64 n,str name] (bm k f cap):=by
 refine bw tG (rs:=[.cell 4 267]) func200 rfl rfl rfl (by simp[hc]) (by simp[hc]) (fun B=>?_)
 refine zu2 ?_
 refine Ws<|Wl<|zu3 ?_
 refine Wf rfl (by exact decide_eq_false (by omega)) ?_
 refine zu3 ?_
 refine Wf rfl (by exact decide_eq_false (by omega)) ?_
 refine Wj<|Ws<|z8 ?_
 refine zc rfl func246 ((jg) _) ?_
 refine zc rfl func247 ((iB) _) ?_
 refine zc rfl func248 ((j6) _) ?_
 refine zc rfl func249 ((j4) _) ?_
 refine zc rfl func250 ((np) _) ?_
 refine zs2 ?_
 refine Wl<|jJ 7 ?_
 show W _ _ _ _ _ _ _
 refine zu1 ?_
 refine Ws<|Wt rfl (by rfl) ?_
 refine Wj<|Ws<|Wl<|z8 ?_
 refine z2 ?_ (q:=(by decide))
 refine zs1 ?_
 refine zp2 ?_
 refine Wd rfl rfl (ba (b:=true) (e:=267) (key:=.s name) (by kernel_rfl) (lO tG rfl) (by kernel_rfl) rfl rfl rfl rfl (by kernel_rfl) ((by exact h0))) ?_
 refine zy5 ?_
 refine zs1 ?_
 refine zu1 ?_
 refine Wf rfl (by rfl) ?_
 refine Wj<|aa rfl ?_
 refine z1 ?_
 refine Wa 36 rfl (show _=PV.val (.int .i64 1) from rfl) ?_
 refine zs1 ?_
 show W _ _ _ _ _ _ _
 refine zu1 ?_
 refine Ws<|Wt rfl (by rfl) ?_
 refine Wj<|Ws<|Wl<|z8 ?_
 refine z2 ?_ (q:=(by decide))
 refine zs1 ?_
 refine zp2 ?_
 refine Wd rfl rfl (ba (b:=true) (e:=267) (key:=.s name) (by kernel_rfl) (lO tG rfl) (by kernel_rfl) rfl rfl rfl rfl (by kernel_rfl) ((by exact h1))) ?_
 refine zy5 ?_
 refine zs1 ?_
 refine zu1 ?_
 refine Wf rfl (by rfl) ?_
 refine Wj<|aa rfl ?_
 refine z1 ?_
 refine Wa 36 rfl (show _=PV.val (.int .i64 2) from rfl) ?_
 refine zs1 ?_
 show W _ _ _ _ _ _ _
 refine zu1 ?_
 refine Ws<|Wt rfl (by rfl) ?_
 refine Wj<|Ws<|Wl<|z8 ?_
 refine z2 ?_ (q:=(by decide))
 refine zs1 ?_
 refine zp2 ?_
 refine Wd rfl rfl (ba (b:=true) (e:=267) (key:=.s name) (by kernel_rfl) (lO tG rfl) (by kernel_rfl) rfl rfl rfl rfl (by kernel_rfl) ((by exact h2))) ?_
 refine zy5 ?_
 refine zs1 ?_
 refine zu1 ?_
 refine Wf rfl (by rfl) ?_
 refine Wj<|aa rfl ?_
 refine z1 ?_
 refine Wa 36 rfl (show _=PV.val (.int .i64 3) from rfl) ?_
 refine zs1 ?_
 show W _ _ _ _ _ _ _
 refine zu1 ?_
 refine Ws<|Wt rfl (by rfl) ?_
 refine Wj<|Ws<|Wl<|z8 ?_
 refine z2 ?_ (q:=(by decide))
 refine zs1 ?_
 refine zp2 ?_
 refine Wd rfl rfl (ba (b:=true) (e:=267) (key:=.s name) (by kernel_rfl) (lO tG rfl) (by kernel_rfl) rfl rfl rfl rfl (by kernel_rfl) ((by exact h3))) ?_
 refine zy5 ?_
 refine zs1 ?_
 refine zu1 ?_
 refine Wf rfl (by rfl) ?_
 refine Wj<|aa rfl ?_
 refine z1 ?_
 refine Wa 36 rfl (show _=PV.val (.int .i64 4) from rfl) ?_
 refine zs1 ?_
 show W _ _ _ _ _ _ _
 refine zu1 ?_
 refine Ws<|Wt rfl (by rfl) ?_
 refine Wj<|Ws<|Wl<|z8 ?_
 refine z2 ?_ (q:=(by decide))
 refine zs1 ?_
 refine zp2 ?_
 refine Wd rfl rfl (ba (b:=true) (e:=267) (key:=.s name) (by kernel_rfl) (lO tG rfl) (by kernel_rfl) rfl rfl rfl rfl (by kernel_rfl) ((by exact h4))) ?_
 refine zy5 ?_
 refine zs1 ?_
 refine zu1 ?_
 refine Wt rfl (by rfl) ?_
 refine zu2 ?_
 refine zR ?_
 rfl
theorem iA(n:Int)(name:Str)(k:Int)(f:FuncId)(cap:List PV)(hn:72<n)(hc:ay cap)(h0:gN rkK rkV (.s name) eG=(eG,false))(h1:gN meK meV (.s name) eG=(eG,false))(h2:gN spK spV (.s name) eG=(eG,false))(h3:gN prK prV (.s name) eG=(eG,false))(h4:gN piK piV (.s name) eG=(eG,false))(h5:gN otK otV (.s name) eG=(bm k f cap,true)):ab prog 200 [i64 n,str name] (bm k f cap):=by
 refine bw tG (rs:=[.cell 4 267]) func200 rfl rfl rfl (by simp[hc]) (by simp[hc]) (fun B=>?_)
 refine zu2 ?_
 refine Ws<|Wl<|zu3 ?_
 refine Wf rfl (by exact decide_eq_false (by omega)) ?_
 refine zu3 ?_
 refine Wf rfl (by exact decide_eq_false (by omega)) ?_
 refine Wj<|Ws<|z8 ?_
 refine zc rfl func246 ((jg) _) ?_
 refine zc rfl func247 ((iB) _) ?_
 refine zc rfl func248 ((j6) _) ?_
 refine zc rfl func249 ((j4) _) ?_
 refine zc rfl func250 ((np) _) ?_
 refine zs2 ?_
 refine Wl<|jJ 7 ?_
 show W _ _ _ _ _ _ _
 refine zu1 ?_
 refine Ws<|Wt rfl (by rfl) ?_
 refine Wj<|Ws<|Wl<|z8 ?_
 refine z2 ?_ (q:=(by decide))
 refine zs1 ?_
 refine zp2 ?_
 refine Wd rfl rfl (ba (b:=true) (e:=267) (key:=.s name) (by kernel_rfl) (lO tG rfl) (by kernel_rfl) rfl rfl rfl rfl (by kernel_rfl) ((by exact h0))) ?_
 refine zy5 ?_
 refine zs1 ?_
 refine zu1 ?_
 refine Wf rfl (by rfl) ?_
 refine Wj<|aa rfl ?_
 refine z1 ?_
 refine Wa 36 rfl (show _=PV.val (.int .i64 1) from rfl) ?_
 refine zs1 ?_
 show W _ _ _ _ _ _ _
 refine zu1 ?_
 refine Ws<|Wt rfl (by rfl) ?_
 refine Wj<|Ws<|Wl<|z8 ?_
 refine z2 ?_ (q:=(by decide))
 refine zs1 ?_
 refine zp2 ?_
 refine Wd rfl rfl (ba (b:=true) (e:=267) (key:=.s name) (by kernel_rfl) (lO tG rfl) (by kernel_rfl) rfl rfl rfl rfl (by kernel_rfl) ((by exact h1))) ?_
 refine zy5 ?_
 refine zs1 ?_
 refine zu1 ?_
 refine Wf rfl (by rfl) ?_
 refine Wj<|aa rfl ?_
 refine z1 ?_
 refine Wa 36 rfl (show _=PV.val (.int .i64 2) from rfl) ?_
 refine zs1 ?_
 show W _ _ _ _ _ _ _
 refine zu1 ?_
 refine Ws<|Wt rfl (by rfl) ?_
 refine Wj<|Ws<|Wl<|z8 ?_
 refine z2 ?_ (q:=(by decide))
 refine zs1 ?_
 refine zp2 ?_
 refine Wd rfl rfl (ba (b:=true) (e:=267) (key:=.s name) (by kernel_rfl) (lO tG rfl) (by kernel_rfl) rfl rfl rfl rfl (by kernel_rfl) ((by exact h2))) ?_
 refine zy5 ?_
 refine zs1 ?_
 refine zu1 ?_
 refine Wf rfl (by rfl) ?_
 refine Wj<|aa rfl ?_
 refine z1 ?_
 refine Wa 36 rfl (show _=PV.val (.int .i64 3) from rfl) ?_
 refine zs1 ?_
 show W _ _ _ _ _ _ _
 refine zu1 ?_
 refine Ws<|Wt rfl (by rfl) ?_
 refine Wj<|Ws<|Wl<|z8 ?_
 refine z2 ?_ (q:=(by decide))
 refine zs1 ?_
 refine zp2 ?_
 refine Wd rfl rfl (ba (b:=true) (e:=267) (key:=.s name) (by kernel_rfl) (lO tG rfl) (by kernel_rfl) rfl rfl rfl rfl (by kernel_rfl) ((by exact h3))) ?_
 refine zy5 ?_
 refine zs1 ?_
 refine zu1 ?_
 refine Wf rfl (by rfl) ?_
 refine Wj<|aa rfl ?_
 refine z1 ?_
 refine Wa 36 rfl (show _=PV.val (.int .i64 4) from rfl) ?_
 refine zs1 ?_
 show W _ _ _ _ _ _ _
 refine zu1 ?_
 refine Ws<|Wt rfl (by rfl) ?_
 refine Wj<|Ws<|Wl<|z8 ?_
 refine z2 ?_ (q:=(by decide))
 refine zs1 ?_
 refine zp2 ?_
 refine Wd rfl rfl (ba (b:=true) (e:=267) (key:=.s name) (by kernel_rfl) (lO tG rfl) (by kernel_rfl) rfl rfl rfl rfl (by kernel_rfl) ((by exact h4))) ?_
 refine zy5 ?_
 refine zs1 ?_
 refine zu1 ?_
 refine Wf rfl (by rfl) ?_
 refine Wj<|aa rfl ?_
 refine z1 ?_
 refine Wa 36 rfl (show _=PV.val (.int .i64 5) from rfl) ?_
 refine zs1 ?_
 show W _ _ _ _ _ _ _
 refine zu1 ?_
 refine Ws<|Wf rfl (by rfl) ?_
 refine bf ?_
 refine Ws<|az [0,1,0,3] [0,1,2,3] mG rfl (by kernel_rfl) ?_
 refine Xc rfl rfl rfl rfl (fun _=>dC rfl func251 rfl rfl ((Hs) _)) ?_
 refine z5 ?_
 refine gW rfl rfl rfl rfl (fun _=>ba (b:=false) (e:=267) (key:=.s name) (by kernel_rfl) (lO tG rfl) (by kernel_rfl) rfl rfl rfl rfl (by kernel_rfl) ((by exact h5))) ?_
 refine dz tG rfl rfl rfl rfl rfl trivial ?_
 refine aP ?_
 refine zR ?_
 rfl
theorem MH(l:List Int)(hl:l.length<=1000000):Rv prog 201 [sq ap l] l.length (l.flatMap ap) 1:=by
 refine N8 tG (rs:=[.tmp 2]) func201 rfl rfl rfl (by simp) (bt (fun x=>by simp) _) (fun B=>?_)
 refine zp1 ?_
 refine D9 2 0 1 rfl rfl ?_
 refine Wn<|Ws<|zp1 ?_
 refine wA (lO tG rfl) rfl rfl rfl rfl rfl (fun bn1 hn1=>?_)
 refine Wn<|Wi rfl (fun hi1=>?_) (fun hi1=>?_)
 ·refine zp1 ?_
  refine D9 2 0 1 rfl rfl ?_
  refine Wn<|Wq ?_
  exact X3 rfl (hn1 hi1).1.symm (hn1 hi1).2.symm rfl (by omega)
 refine Wj<|zp2 ?_
 refine Wd rfl rfl (cb (lO tG rfl) rfl (lO tG rfl) (lO tG rfl) rfl rfl (by exact⟨_,rfl⟩) (by exact⟨rfl,rfl,al _ 1 (fun _=>rfl) _,bD _ (fun _=>rfl) _⟩) (by rfl) (by(dsimp only;omega)) (by(omega))) ?_
 refine Wa 7 rfl (yq ap) ?_
 refine z1 ?_
 skip
 refine Wn<|Wq ?_
 exact X3 rfl rfl rfl rfl (by show(0+l.length)*1<=_;omega)
def ji(s:List Int)(roll:Bool)(limit:Int):List Int×Bool×Int :=
 if (bk s).2.2≠0\/(bk s).1<0\/((bk s).2.1.length:Int)<=(bk s).1 then(s,true,-4)else
  if roll then lM s ((bk s).1.toNat+2) ((bk s).2.1.drop ((bk s).2.1.length-1-(bk s).1.toNat+1)++[(bk s).2.1.getD ((bk s).2.1.length-1-(bk s).1.toNat) 0]) limit
  else lM s 1 [(bk s).2.1.getD ((bk s).2.1.length-1-(bk s).1.toNat) 0] limit
theorem JJ{s:List Int}(h:(bk s).2.2=0):(bk s).2.1.length+1=s.length:=by
 unfold bk at h ⊢
 split at h
 ·cases h
 rename_i h0
 rw[if_neg h0]
 simp only[List.length_take];omega
theorem G2(s:List Int)(roll:Bool)(limit:Int)(hs:s.length<=100000)(hm : -9223372036854775808<=limit/\limit<=9223372036854775807):
  ab prog 238 [sq ap s,boo roll,i64 limit] (Bl (ji s roll limit)):=by
 refine zY func238 fun B=>?_
 refine zu3 ?_
 refine zp1 ?_
 refine zc rfl func259 ((Dk s hs) _) ?_
 refine zy5 ?_
 refine zs2 ?_
 refine Ws<|zp3 ?_
 refine Wb 21 rfl (fun hg1=>?_) (fun hg1=>?_)
 ·have h0:(bk s).2.2≠0:=by simpa using hg1
  iterate 2 refine z6 ?_
  refine zy2 ?_
  iterate 4 refine z6 ?_
  refine zs1 ?_
  refine Wt rfl rfl ?_
  refine zu4 ?_
  refine zR ?_
  rw[ji,if_pos (.inl h0)];rfl
 have h0:(bk s).2.2=0:=by simpa using hg1
 have hl:=JJ h0
 refine zy4 ?_
 refine Wb 25 rfl (fun hg2=>?_) (fun hg2=>?_)
 ·have h1:(bk s).1<0:=by simpa using hg2
  iterate 4 refine z6 ?_
  refine zs1 ?_
  refine Wt rfl rfl ?_
  refine zu4 ?_
  refine zR ?_
  rw[ji,if_pos (.inr (.inl h1))];rfl
 have h1:¬(bk s).1<0:=by simpa using hg2
 refine zs5 ?_
 refine Wi rfl (fun hi1=>?_) (fun hi1=>?_)
 ·have h2:((bk s).2.1.length:Int)<=(bk s).1:=by simpa using hi1
  refine zu4 ?_
  refine zR ?_
  rw[ji,if_pos (.inr (.inr h2))];rfl
 have h2:¬((bk s).2.1.length:Int)<=(bk s).1:=by simpa using hi1
 have hc:¬((bk s).2.2≠0\/(bk s).1<0\/((bk s).2.1.length:Int)<=(bk s).1):=by rintro(h|h|h)<;>contradiction
 have w1:IntKind.i64.wrap (IntKind.i64.wrap (((bk s).2.1.length:Int)-1)-(bk s).1)=(((bk s).2.1.length-1-(bk s).1.toNat:Nat):Int):=by simp only[bS];unfold wrap64;omega
 have w2:IntKind.i64.wrap ((((bk s).2.1.length-1-(bk s).1.toNat:Nat):Int)+1)=(((bk s).2.1.length-1-(bk s).1.toNat+1:Nat):Int):=by simp only[bS];unfold wrap64;omega
 have w3:IntKind.i64.wrap ((bk s).1+2)=(((bk s).1.toNat+2:Nat):Int):=by simp only[bS];unfold wrap64;omega
 refine Wj<|zp5 ?_
 refine Wa 36 rfl (congrArg (fun z=>PV.val (Value.int .i64 z)) w1) ?_
 refine zs1 ?_
 refine Ws<|zu1 ?_
 refine Wi rfl (fun hi2=>?_) (fun hi2=>?_)
 ·refine Ws<|az [0,0,0,0,0,0,0,2,0,0,0,0,0,3,0,0,0,0,0,0,0,0] [0,1,2,3,4,5,6,8,9,10,11,12,14,7,13,15,16,17,18,19,20,21] mG rfl (by kernel_rfl) ?_
  iterate 3 refine z3 ?_
  refine Xa 40 rfl (congrArg (fun z=>PV.val (Value.int .i64 z)) w3) ?_
  iterate 3 refine z3 ?_
  refine Xa 43 rfl (congrArg (fun z=>PV.val (Value.int .i64 z)) w2) ?_
  refine z4 ?_ (q:=(by(simp_all;omega)))
  refine Xa 44 rfl (cK ap 1 (fun _=>rfl) (by omega)) ?_
  refine Xa 44 rfl ((show _=sq ap ((bk s).2.1.drop ((bk s).2.1.length-1-(bk s).1.toNat+1)) by rw[List.take_length,Int.toNat_natCast];rfl)) ?_
  iterate 2 refine z3 ?_
  refine Xi tG rfl rfl rfl rfl (fun _=>rfl) (by omega) (iN ap 1 (fun _=>rfl) 0 (by omega)) ?_
  iterate 2 refine z3 ?_
  refine Xa 50 rfl (bsL ap [_] rfl rfl) ?_
  refine z3 ?_
  refine TG rfl rfl rfl rfl (dC rfl func201 rfl rfl (MH _ (by simp;omega) _)) ?_
  refine me rfl rfl rfl rfl (eV (lO tG rfl) rfl (lO tG rfl) (lO tG rfl) rfl rfl rfl rfl (by simp) (by exact⟨_,rfl⟩) (by exact⟨rfl,rfl,al _ 1 (fun _=>rfl) _,bD _ (fun _=>rfl) _⟩) (by(simp;omega)) (by(simp;omega))) ?_
  refine Xa 51 rfl (cw ap) ?_
  refine Xc rfl rfl rfl rfl (fun _=>dC rfl func237 rfl rfl ((qc s _ _ _ hs (by omega) (by simp;omega) hm) _)) ?_
  iterate 6 refine z3 ?_
  refine aP ?_
  refine zR ?_
  rw[ji,if_neg hc,if_pos hi2];rfl
 refine Wj<|zp3 ?_
 refine Wv tG rfl rfl rfl (by omega) (iN ap 1 (fun _=>rfl) 0 (by omega)) ?_
 refine zy2 ?_
 refine Wa 62 rfl (bsL ap [_] rfl rfl) ?_
 refine z1 ?_
 refine zc rfl func237 ((qc s 1 _ _ hs (by omega) (by simp) hm) _) ?_
 refine zy5 ?_
 refine zs1 ?_
 refine zR ?_
 rw[ji,if_neg hc,if_neg (by rw[hi2];simp)];rfl
def Rh:List (Str×Nat×Str):=[([68,85,80],1,[97,97]),([68,82,79,80],1,[]),([83,87,65,80],2,[98,97]),([79,86,69,82],2,[97,98,97]),([78,73,80],2,[98]),([84,85,67,75],2,[98,97,98]),([82,79,84],3,[98,99,97]),([45,82,79,84],3,[99,97,98]),([50,68,85,80],2,[97,98,97,98]),([50,68,82,79,80],2,[]),([50,83,87,65,80],4,[99,100,97,98]),([50,79,86,69,82],4,[97,98,99,100,97,98])]
def EQ:List fG:=Rh.map fun q=>.s q.1
def Bb:List PV:=Rh.map fun q=>.agg [i64 q.2.1,str q.2.2]
theorem GL:aS (.smap EQ Bb):=by
 unfold aS Bb
 exact CZ _ (fun q=>by simp) _
theorem yS:ab prog 239 [] (.smap EQ Bb):=by
 refine bw tG (rs:=[.tmp 0]) func239 rfl rfl rfl (by simp;done) (by exact GL) (fun B=>?_)
 refine zu1 ?_
 refine z8 ?_
 refine Wd rfl rfl (dq rfl) ?_
 refine z1 ?_
 refine zD 292 (.s [68,85,80]) ?_
 refine z1 ?_
 refine zD 292 (.s [68,82,79,80]) ?_
 refine z1 ?_
 refine zD 292 (.s [83,87,65,80]) ?_
 refine z1 ?_
 refine zD 292 (.s [79,86,69,82]) ?_
 refine z1 ?_
 refine zD 292 (.s [78,73,80]) ?_
 refine z1 ?_
 refine zD 292 (.s [84,85,67,75]) ?_
 refine z1 ?_
 refine zD 292 (.s [82,79,84]) ?_
 refine z1 ?_
 refine zD 292 (.s [45,82,79,84]) ?_
 refine z1 ?_
 refine zD 292 (.s [50,68,85,80]) ?_
 refine z1 ?_
 refine zD 292 (.s [50,68,82,79,80]) ?_
 refine z1 ?_
 refine zD 292 (.s [50,83,87,65,80]) ?_
 refine z1 ?_
 refine zD 292 (.s [50,79,86,69,82]) ?_
 refine z1 ?_
 refine ey 14 _ rfl rfl rfl ?_
 refine zs1 ?_
 refine zR ?_
 rfl
def JV(s:List Int)(tk:Nat)(lv:Str)(limit:Int):List Int×Bool×Int :=
 if s.length<tk then(s,true,-4)else lM s tk (lv.map fun c=>(s.drop (s.length-tk)).getD (c.toNat-97) 0) limit
theorem Gr{lv:Str}{f:UInt8->Int}{k:Nat}{q:SK}(hk:k<lv.length):PV.seq ((lv.take k).map f++[f (lv.getD k 0)]).length (((lv.take k).map f++[f (lv.getD k 0)]).flatMap ap) q=.seq ((lv.take (k+1)).map f).length (((lv.take (k+1)).map f).flatMap ap) q:=by
 rw[jY lv k 0 hk,List.map_append];rfl
theorem iz(name:Str)(s:List Int)(limit:Int)(tk:Nat)(lv:Str)(hs:s.length<=100000)(hm : -9223372036854775808<=limit/\limit<=9223372036854775807)(h1:name≠[68,69,80,84,72])(h2:name≠[80,73,67,75])(h3:name≠[82,79,76,76])(h4:name≠[63,68,85,80])
  (hk:gN EQ Bb (.s name) (.agg [i64 0,str []])=(.agg [i64 tk,str lv],true)) (hl:∀c∈lv,97<=c.toNat/\c.toNat<97+tk) (hlen:lv.length<=10) (htk:tk<=4) :
  ab prog 199 [str name,sq ap s,i64 limit] (Bl (JV s tk lv limit)):=by
 refine zY func199 fun B=>?_
 refine zu3 ?_
 refine Ws<|zu1 ?_
 refine Wl<|zp1 ?_
 refine zq 17 ?_
 refine zs1 ?_
 refine Wf rfl (by exact decide_eq_false h1) ?_
 refine Ws<|zp1 ?_
 refine zq 28 ?_
 refine zs1 ?_
 refine Wf rfl (by exact decide_eq_false h2) ?_
 refine aa rfl ?_
 refine z1 ?_
 refine zq 29 ?_
 refine zs1 ?_
 refine Wf rfl (by exact decide_eq_false h3) ?_
 refine Wj<|z8 ?_
 refine zc rfl func239 ((yS) _) ?_
 refine z1 ?_
 refine Wd rfl rfl (ba (b:=true) (e:=292) (key:=.s name) (by kernel_rfl) (lO tG rfl) (by kernel_rfl) rfl rfl rfl rfl (by kernel_rfl) (hk)) ?_
 refine zy5 ?_
 refine zs1 ?_
 refine Ws<|zp2 ?_
 refine zq 45 ?_
 refine Wn<|Wf rfl (by exact decide_eq_false h4) ?_
 refine Wj<|Ws<|zu2 ?_
 refine Wf rfl (by rfl) ?_
 refine Wj<|Ws<|zu5 ?_
 refine Wi rfl (fun hi6=>?_) (fun hi6=>?_)
 ·have h0:s.length<tk:=by(try simp only[dnL]at *);omega
  refine zu4 ?_
  refine zR ?_
  rw[JV,if_pos h0];rfl
 have h0:¬s.length<tk:=by(try simp only[dnL]at *);omega
 have w1:IntKind.i64.wrap ((s.length:Int)-(tk:Int))=((s.length-tk:Nat):Int):=by((rw[bS];unfold wrap64;(try simp only[dnL]at *);omega))
 refine Wj<|zp5 ?_
 refine z1 ?_
 refine Wa 74 rfl (congrArg (fun z=>PV.val (Value.int .i64 z)) w1) ?_
 refine z2 ?_ (q:=(by(simp_all;done)))
 refine Wa 75 rfl (cK ap 1 (fun _=>rfl) (by omega)) ?_
 refine Wa 75 rfl ((show _=sq ap (s.drop (s.length-tk)) by rw[List.take_length,Int.toNat_natCast];rfl)) ?_
 refine zs1 ?_
 refine zp1 ?_
 refine D9 12 0 1 rfl rfl ?_
 refine Wn<|Ws<|zp2 ?_
 refine Wd rfl rfl (oZ (lO tG rfl) rfl rfl rfl) ?_
 refine Wn<|Wl ?_
 show W _ _ _ _ _ _ _
 refine fX (fun(k:Nat)=>[(1,sq ap s),(2,i64 limit),(9,.ptr 0 0),(11,sq ap (s.drop (s.length-tk))),(78,.ptr 3 0),(12,.seq ((lv.take k).map fun c=>(s.drop (s.length-tk)).getD (c.toNat-97) 0).length (((lv.take k).map fun c=>(s.drop (s.length-tk)).getD (c.toNat-97) 0).flatMap ap) (.own 4 1))]) (fun(k:Nat)=>[.cells [i64 tk,str lv] 292,.dead,.dead]) (fun(k:Nat)=>[.iter lv k,.free (((lv.take k).map fun c=>(s.drop (s.length-tk)).getD (c.toNat-97) 0).length*1)]) (fun(k:Nat)=>k<=lv.length) (fun(k:Nat)=>lv.length-k) (0) (by omega) [2,1] ?_ ?_
 ·exact fc
 intro k hk
 refine z8 ?_
 by_cases hx1:k<lv.length
 ·have hc:=hl (lv.getD k 0) (by simp only[List.getD,List.getElem?_eq_getElem hx1,Option.getD_some];exact List.getElem_mem hx1)
  have w2:IntKind.i32.wrap (((lv.getD k 0).toNat:Int)-97)=(((lv.getD k 0).toNat-97:Nat):Int):=by rw[IntWalk.i32_left];unfold wrap32;omega
  refine Wd rfl rfl (tv rfl rfl rfl (by exact hx1) (by omega)) ?_
  refine zs1 ?_
  refine Ws<|Wt rfl rfl ?_
  refine Wj<|Wl<|zu2 ?_
  refine aa rfl ?_
  refine zy4 ?_
  refine Wa 85 rfl (congrArg (fun z=>PV.val (Value.int .i32 z)) w2) ?_
  refine Wv tG rfl rfl rfl (by simp only[List.length_drop,Int.toNat_natCast];omega) (iN ap 1 (fun _=>rfl) 0 (by simp only[List.length_drop,Int.toNat_natCast];omega)) ?_
  refine zy2 ?_
  refine Wa 88 rfl (bsL ap [_] rfl rfl) ?_
  refine Wd rfl rfl (eV (lO tG rfl) rfl (lO tG rfl) (lO tG rfl) rfl rfl rfl rfl (by simp) (by exact⟨_,rfl⟩) (by exact⟨rfl,rfl,al _ 1 (fun _=>rfl) _,bD _ (fun _=>rfl) _⟩) (by((simp_all;omega))) (by((simp_all;omega)))) ?_
  refine Wa 89 rfl (cw ap) ?_
  refine z1 ?_
  skip
  refine Wn ?_
  exact⟨k+1,[3,5],(by omega),(by omega),(fc (sub:=by repeat (first|exact fN|refine ew (by first|exact cP rfl|exact cP (Gr hx1)) ?_)))⟩
 refine Wd rfl rfl (o6 rfl rfl rfl (by omega)) ?_
 refine zs1 ?_
 refine Ws<|Wf rfl rfl ?_
 refine bf ?_
 refine zp5 ?_
 refine zc rfl func237 ((qc s tk _ limit hs (by omega) (by simp;omega) hm) _) ?_
 refine zy5 ?_
 refine zs1 ?_
 refine zR ?_
 rw[JV,if_neg h0,pd lv k (by omega)];rfl
def zG(s:List Int):Int:=if s.length=0\/s.getD (s.length-1) 0<0\/(s.length:Int)-1<=s.getD (s.length-1) 0 then(s.length:Int)+1 else s.getD (s.length-1) 0+2
theorem dG{name:Str}{s:List Int}{limit:Int}{tk:Nat}{lv:List Int}(h1:ow name s=(tk:Int))(h2:y4 name (s.drop (s.length-tk)) s.length=lv):
  dJ name s limit=if s.length<tk then(s,true,-4)else lM s tk lv limit:=by
 have e:(ow name s).toNat=tk:=by rw[h1];rfl
 unfold dJ
 rw[e,h2,h1,if_neg (by omega)]
 by_cases h:s.length<tk
 ·rw[if_pos h,if_pos (by omega)]
 rw[if_neg h,if_neg (by omega)]
 unfold lM
 rfl
theorem Nh(s:List Int)(limit:Int)(hs:s.length<=100000)(hm : -9223372036854775808<=limit/\limit<=9223372036854775807):ab prog 199 [str [68,69,80,84,72],sq ap s,i64 limit] (Bl (dJ [68,69,80,84,72] s limit)):=by
 refine zY func199 fun B=>?_
 refine zu3 ?_
 refine Ws<|zu1 ?_
 refine Wl<|zp1 ?_
 refine zq 17 ?_
 refine zs1 ?_
 refine Wt rfl (by decide) ?_
 refine zp4 ?_
 refine Wa 21 rfl (bsL ap [_] rfl rfl) ?_
 refine z1 ?_
 refine zc rfl func237 ((qc s 0 _ limit hs (by omega) (by simp) hm) _) ?_
 refine zy5 ?_
 refine zs1 ?_
 refine zR ?_
 rw[dG (tk:=0) (lv:=[(s.length:Int)]) rfl rfl,if_neg (by omega)];rfl
theorem Be{s:List Int}{k:Nat}:(s.drop k).getD 0 0=s.getD k 0:=by unfold List.getD;rw[List.getElem?_drop];rfl
theorem I7{s:List Int}{k n:Nat}(h:k<n):(s.take n).getD k 0=s.getD k 0:=by unfold List.getD;rw[List.getElem?_take,if_pos h]
theorem TZ{name:Str}{s:List Int}{limit:Int}{roll:Bool}(hp:ow name s=zG s)(hc:s.length=0\/s.getD (s.length-1) 0<0\/(s.length:Int)-1<=s.getD (s.length-1) 0):ji s roll limit=dJ name s limit:=by
 have e:zG s=(s.length:Int)+1:=by rw[zG,if_pos hc]
 unfold dJ
 rw[hp,e,if_neg (by omega),if_pos (by omega)]
 unfold ji
 rw[if_pos]
 unfold bk
 split
 ·exact .inl (by simp)
 rename_i h0
 refine .inr ?_
 rcases hc with hc|hc|hc
 ·exact absurd hc h0
 ·exact .inl hc
 refine .inr ?_
 simp only[List.length_take];omega
theorem NR{name:Str}{s:List Int}{limit:Int}{roll:Bool}(hp:ow name s=zG s)(hl:∀x d,y4 name x d=if roll then(x.take (x.length-1)).drop 1++[xat x 0]else x.take (x.length-1)++[xat x 0])
  (hc:¬(s.length=0\/s.getD (s.length-1) 0<0\/(s.length:Int)-1<=s.getD (s.length-1) 0)):ji s roll limit=dJ name s limit:=by
 have h0:s.length≠0:=fun h=>hc (.inl h)
 obtain⟨t,ht⟩:∃t:Nat,s.getD (s.length-1) 0=t:=⟨(s.getD (s.length-1) 0).toNat,by have:¬s.getD (s.length-1) 0<0:=fun h=>hc (.inr (.inl h));omega⟩
 have hlt:t+2<=s.length:=by have:¬((s.length:Int)-1<=s.getD (s.length-1) 0):=fun h=>hc (.inr (.inr h));omega
 have e:zG s=((t+2:Nat):Int):=by rw[zG,if_neg hc,ht];rfl
 have hd:(s.drop (s.length-(t+2))).length=t+2:=by rw[List.length_drop];omega
 have hx:xat (s.drop (s.length-(t+2))) 0=s.getD (s.length-(t+2)) 0:=Be
 have hpop:bk s=((t:Int),s.take (s.length-1),0):=by unfold bk;rw[if_neg h0,ht]
 rw[dG (tk:=t+2) (hp.trans e) (hl _ _),if_neg (by omega)]
 unfold ji
 rw[hpop]
 simp only[List.length_take,Int.toNat_natCast,Nat.min_eq_left (show s.length-1<=s.length by omega)]
 rw[if_neg (by rintro(h|h|h)<;>omega),hd,hx]
 have e1:s.length-1-1-t=s.length-(t+2):=by omega
 rw[e1,I7 (by omega)]
 cases roll with
 | true =>
  simp only[if_true]
  congr 2
  rw[List.drop_take,List.drop_take,List.drop_drop]
  have e2:s.length-(t+2)+1=s.length-(t+2)+1:=rfl
  have e3:s.length-1-(s.length-(t+2)+1)=t+2-1-1:=by omega
  rw[e3]
 | false =>
  simp only[Bool.false_eq_true,if_false]
  unfold lM
  have hl1:((s.drop (s.length-(t+2))).take (t+2-1)++[s.getD (s.length-(t+2)) 0]).length=t+2:=by rw[List.length_append,List.length_take,hd];simp
  have e2:s.length-(t+2)+((s.drop (s.length-(t+2))).take (t+2-1)++[s.getD (s.length-(t+2)) 0]).length=s.length-1+[s.getD (s.length-(t+2)) 0].length:=by rw[hl1];simp;omega
  rw[e2,<-List.append_assoc,<-List.take_add]
  have e3:s.length-(t+2)+(t+2-1)=s.length-1:=by omega
  rw[e3]
theorem we{name:Str}{s:List Int}{limit:Int}{roll:Bool}(hp:ow name s=zG s)(hl:∀x d,y4 name x d=if roll then(x.take (x.length-1)).drop 1++[xat x 0]else x.take (x.length-1)++[xat x 0]):
  ji s roll limit=dJ name s limit:=by
 by_cases hc:s.length=0\/s.getD (s.length-1) 0<0\/(s.length:Int)-1<=s.getD (s.length-1) 0
 ·exact TZ hp hc
 exact NR hp hl hc
theorem Qh(s:List Int)(limit:Int)(hs:s.length<=100000)(hm : -9223372036854775808<=limit/\limit<=9223372036854775807):ab prog 199 [str [80,73,67,75],sq ap s,i64 limit] (Bl (ji s false limit)):=by
 refine zY func199 fun B=>?_
 refine zu3 ?_
 refine Ws<|zu1 ?_
 refine Wl<|zp1 ?_
 refine zq 17 ?_
 refine zs1 ?_
 refine Wf rfl (by decide) ?_
 refine Ws<|zp1 ?_
 refine zq 28 ?_
 refine zs1 ?_
 refine Wt rfl (by decide) ?_
 refine Wj<|Wt rfl (by decide) ?_
 refine zp3 ?_
 refine zq 32 ?_
 refine z1 ?_
 refine zc rfl func238 ((G2 s _ limit hs hm) _) ?_
 refine zy5 ?_
 refine zs1 ?_
 refine zR ?_
 rfl
theorem Qy(s:List Int)(limit:Int)(hs:s.length<=100000)(hm : -9223372036854775808<=limit/\limit<=9223372036854775807):ab prog 199 [str [82,79,76,76],sq ap s,i64 limit] (Bl (ji s true limit)):=by
 refine zY func199 fun B=>?_
 refine zu3 ?_
 refine Ws<|zu1 ?_
 refine Wl<|zp1 ?_
 refine zq 17 ?_
 refine zs1 ?_
 refine Wf rfl (by decide) ?_
 refine Ws<|zp1 ?_
 refine zq 28 ?_
 refine zs1 ?_
 refine Wf rfl (by decide) ?_
 refine aa rfl ?_
 refine z1 ?_
 refine zq 29 ?_
 refine zs1 ?_
 refine Wt rfl (by decide) ?_
 refine zp3 ?_
 refine zq 32 ?_
 refine z1 ?_
 refine zc rfl func238 ((G2 s _ limit hs hm) _) ?_
 refine zy5 ?_
 refine zs1 ?_
 refine zR ?_
 rfl
def Ci(s:List Int)(limit:Int):List Int×Bool×Int :=
 if s.length=0 then(s,true,-4)else lM s 1 (if s.getD (s.length-1) 0=0 then [xat (s.drop (s.length-1)) 0]else [xat (s.drop (s.length-1)) 0,xat (s.drop (s.length-1)) 0]) limit
theorem Qe(s:List Int)(limit:Int)(hs:s.length<=100000)(hm : -9223372036854775808<=limit/\limit<=9223372036854775807):ab prog 199 [str [63,68,85,80],sq ap s,i64 limit] (Bl (Ci s limit)):=by
 refine zY func199 fun B=>?_
 refine zu3 ?_
 refine Ws<|zu1 ?_
 refine Wl<|zp1 ?_
 refine zq 17 ?_
 refine zs1 ?_
 refine Wf rfl (by decide) ?_
 refine Ws<|zp1 ?_
 refine zq 28 ?_
 refine zs1 ?_
 refine Wf rfl (by decide) ?_
 refine aa rfl ?_
 refine z1 ?_
 refine zq 29 ?_
 refine zs1 ?_
 refine Wf rfl (by decide) ?_
 refine Wj<|z8 ?_
 refine zc rfl func239 ((yS) _) ?_
 refine z1 ?_
 refine Wd rfl rfl (ba (b:=true) (e:=292) (key:=.s [63,68,85,80]) (by kernel_rfl) (lO tG rfl) (by kernel_rfl) rfl rfl rfl rfl (by kernel_rfl) ((show gN EQ Bb (.s [63,68,85,80]) (PV.agg [i64 0,str []])=(PV.agg [i64 0,str []],false) from rfl))) ?_
 refine zy5 ?_
 refine zs1 ?_
 refine Ws<|zp2 ?_
 refine zq 45 ?_
 refine Wn<|Wt rfl (by decide) ?_
 refine zu3 ?_
 refine zp4 ?_
 refine Wb 50 rfl (fun hg1=>?_) (fun hg1=>?_)
 ·have h0:¬s.length=0:=by(try simp only[dnL]at *);omega
  have w1:IntKind.i64.wrap ((s.length:Int)-1)=((s.length-1:Nat):Int):=by((rw[bS];unfold wrap64;(try simp only[dnL]at *);omega))
  refine zy4 ?_
  refine Wa 54 rfl (congrArg (fun z=>PV.val (Value.int .i64 z)) w1) ?_
  refine Wv tG rfl rfl rfl (by omega) (iN ap 1 (fun _=>rfl) 0 (by omega)) ?_
  refine zs3 ?_
  refine Wi rfl (fun hi5=>?_) (fun hi5=>?_)
  ·have h1:s.getD (s.length-1) 0=0:=oT hi5
   refine aa rfl ?_
   refine zs2 ?_
   refine Ws<|zu2 ?_
   refine Wf rfl rfl ?_
   refine Wj<|Ws<|zu5 ?_
   refine Wf rfl (by(simp only[dnL]at *;omega)) ?_
   refine Wj<|zp5 ?_
   refine z1 ?_
   refine Wa 74 rfl (congrArg (fun z=>PV.val (Value.int .i64 z)) w1) ?_
   refine z2 ?_ (q:=(by(simp_all;done)))
   refine Wa 75 rfl (cK ap 1 (fun _=>rfl) (by omega)) ?_
   refine Wa 75 rfl ((show _=sq ap (s.drop (s.length-1)) by rw[List.take_length,Int.toNat_natCast];rfl)) ?_
   refine zs1 ?_
   refine zu1 ?_
   refine Ws<|zp2 ?_
   refine Wd rfl rfl (oZ (lO tG rfl) rfl rfl rfl) ?_
   refine Wn<|Wl<|jJ 4 ?_
   show W _ _ _ _ _ _ _
   refine z8 ?_
   refine Wd rfl rfl (tv rfl rfl rfl (by decide) (by decide)) ?_
   refine zs1 ?_
   refine Ws<|Wt rfl rfl ?_
   refine Wj<|Wl<|zu2 ?_
   refine aa rfl ?_
   refine zy4 ?_
   refine Wa 85 rfl ((show _=PV.val (.int .i32 0) from rfl)) ?_
   refine Wv tG rfl rfl rfl (by simp only[List.length_drop];omega) (iN ap 1 (fun _=>rfl) 0 (by simp only[List.length_drop];omega)) ?_
   refine zy2 ?_
   refine Wa 88 rfl (bsL ap [_] rfl rfl) ?_
   refine Wd rfl rfl (cb (lO tG rfl) rfl (lO tG rfl) (lO tG rfl) rfl rfl (by exact⟨_,rfl⟩) (by exact⟨rfl,rfl,al _ 1 (fun _=>rfl) _,bD _ (fun _=>rfl) _⟩) (by rfl) (by((simp_all;done))) (by((simp_all;done)))) ?_
   refine Wa 89 rfl (Tb ap _) ?_
   refine zs1 ?_
   show W _ _ _ _ _ _ _
   refine z8 ?_
   refine Wd rfl rfl (o6 rfl rfl rfl (by decide)) ?_
   refine zs1 ?_
   refine Ws<|Wf rfl rfl ?_
   refine bf ?_
   refine zp5 ?_
   refine zc rfl func237 ((qc s 1 _ limit hs (by omega) (by simp) hm) _) ?_
   refine zy5 ?_
   refine zs1 ?_
   refine zR ?_
   rw[Ci,if_neg h0,if_pos h1];rfl
  have h1:¬s.getD (s.length-1) 0=0:=oF hi5
  refine Wj<|Ws<|zu2 ?_
  refine Wf rfl rfl ?_
  refine Wj<|Ws<|zu5 ?_
  refine Wf rfl (by(simp only[dnL]at *;omega)) ?_
  refine Wj<|zp5 ?_
  refine z1 ?_
  refine Wa 74 rfl (congrArg (fun z=>PV.val (Value.int .i64 z)) w1) ?_
  refine z2 ?_ (q:=(by(simp_all;done)))
  refine Wa 75 rfl (cK ap 1 (fun _=>rfl) (by omega)) ?_
  refine Wa 75 rfl ((show _=sq ap (s.drop (s.length-1)) by rw[List.take_length,Int.toNat_natCast];rfl)) ?_
  refine zs1 ?_
  refine zu1 ?_
  refine Ws<|zp2 ?_
  refine Wd rfl rfl (oZ (lO tG rfl) rfl rfl rfl) ?_
  refine Wn<|Wl<|jJ 4 ?_
  show W _ _ _ _ _ _ _
  refine z8 ?_
  refine Wd rfl rfl (tv rfl rfl rfl (by decide) (by decide)) ?_
  refine zs1 ?_
  refine Ws<|Wt rfl rfl ?_
  refine Wj<|Wl<|zu2 ?_
  refine aa rfl ?_
  refine zy4 ?_
  refine Wa 85 rfl ((show _=PV.val (.int .i32 0) from rfl)) ?_
  refine Wv tG rfl rfl rfl (by simp only[List.length_drop];omega) (iN ap 1 (fun _=>rfl) 0 (by simp only[List.length_drop];omega)) ?_
  refine zy2 ?_
  refine Wa 88 rfl (bsL ap [_] rfl rfl) ?_
  refine Wd rfl rfl (cb (lO tG rfl) rfl (lO tG rfl) (lO tG rfl) rfl rfl (by exact⟨_,rfl⟩) (by exact⟨rfl,rfl,al _ 1 (fun _=>rfl) _,bD _ (fun _=>rfl) _⟩) (by rfl) (by((simp_all;done))) (by((simp_all;done)))) ?_
  refine Wa 89 rfl (Tb ap _) ?_
  refine zs1 ?_
  show W _ _ _ _ _ _ _
  refine z8 ?_
  refine Wd rfl rfl (tv rfl rfl rfl (by decide) (by decide)) ?_
  refine zs1 ?_
  refine Ws<|Wt rfl rfl ?_
  refine Wj<|Wl<|zu2 ?_
  refine aa rfl ?_
  refine zy4 ?_
  refine Wa 85 rfl ((show _=PV.val (.int .i32 0) from rfl)) ?_
  refine Wv tG rfl rfl rfl (by simp only[List.length_drop];omega) (iN ap 1 (fun _=>rfl) 0 (by simp only[List.length_drop];omega)) ?_
  refine zy2 ?_
  refine Wa 88 rfl (bsL ap [_] rfl rfl) ?_
  refine Wd rfl rfl (eV (lO tG rfl) rfl (lO tG rfl) (lO tG rfl) rfl rfl rfl rfl (by simp) (by exact⟨_,rfl⟩) (by exact⟨rfl,rfl,al _ 1 (fun _=>rfl) _,bD _ (fun _=>rfl) _⟩) (by((simp_all;done))) (by((simp_all;done)))) ?_
  refine Wa 89 rfl (cw ap) ?_
  refine zs1 ?_
  show W _ _ _ _ _ _ _
  refine z8 ?_
  refine Wd rfl rfl (o6 rfl rfl rfl (by decide)) ?_
  refine zs1 ?_
  refine Ws<|Wf rfl rfl ?_
  refine bf ?_
  refine zp5 ?_
  refine zc rfl func237 ((qc s 1 _ limit hs (by omega) (by simp) hm) _) ?_
  refine zy5 ?_
  refine zs1 ?_
  refine zR ?_
  rw[Ci,if_neg h0,if_neg h1];rfl
 have h0:s.length=0:=by(try simp only[dnL]at *);omega
 have w1:IntKind.i64.wrap ((s.length:Int)-1) = -1:=by((rw[bS];unfold wrap64;(try simp only[dnL]at *);omega))
 iterate 7 refine z6 ?_
 refine zs1 ?_
 refine Wf rfl rfl ?_
 refine Wj<|Ws<|zu2 ?_
 refine Wf rfl rfl ?_
 refine Wj<|Ws<|zu5 ?_
 refine Wt rfl (by(simp only[dnL]at *;omega)) ?_
 refine zu4 ?_
 refine zR ?_
 rw[Ci,if_pos h0];rfl
def pp:List Str:=[[68,85,80],[68,82,79,80],[83,87,65,80],[79,86,69,82],[78,73,80],[84,85,67,75],[82,79,84],[45,82,79,84],[50,68,85,80],[50,68,82,79,80],[50,83,87,65,80],[50,79,86,69,82],[63,68,85,80],[80,73,67,75],[82,79,76,76],[68,69,80,84,72]]
theorem EW(s:List Int)(limit:Int):Ci s limit=dJ [63,68,85,80] s limit:=by
 rw[dG (tk:=1) (lv:=if xat (s.drop (s.length-1)) 0=0 then s.drop (s.length-1)else [xat (s.drop (s.length-1)) 0,xat (s.drop (s.length-1)) 0]) rfl rfl]
 unfold Ci
 by_cases h0:s.length=0
 ·rw[if_pos h0,if_pos (show s.length<1 by omega)]
 rw[if_neg h0,if_neg (show ¬s.length<1 by omega)]
 have hx:xat (s.drop (s.length-1)) 0=s.getD (s.length-1) 0:=Be
 have hd:s.drop (s.length-1)=[s.getD (s.length-1) 0]:=by
  rw[List.drop_eq_getElem_cons (by omega),show s.length-1+1=s.length by omega,List.drop_length]
  simp[List.getD,List.getElem?_eq_getElem (show s.length-1<s.length by omega)]
 rw[hx,hd]
theorem Fu(name:Str)(hn:name∈pp)(s:List Int)(limit:Int)(hs:s.length<=100000)(hm : -9223372036854775808<=limit/\limit<=9223372036854775807):ab prog 199 [str name,sq ap s,i64 limit] (Bl (dJ name s limit)):=by
 simp only[pp,List.mem_cons,List.not_mem_nil,or_false]at hn
 rcases hn with rfl|rfl|rfl|rfl|rfl|rfl|rfl|rfl|rfl|rfl|rfl|rfl|rfl|rfl|rfl|rfl
 ·rw[dG (tk:=1) (lv:=([97,97]:Str).map fun c=>(s.drop (s.length-1)).getD (c.toNat-97) 0) rfl rfl]
  exact iz _ s limit 1 [97,97] hs hm (by decide) (by decide) (by decide) (by decide) rfl (by decide) (by decide) (by decide)
 ·rw[dG (tk:=1) (lv:=([]:Str).map fun c=>(s.drop (s.length-1)).getD (c.toNat-97) 0) rfl rfl]
  exact iz _ s limit 1 [] hs hm (by decide) (by decide) (by decide) (by decide) rfl (by decide) (by decide) (by decide)
 ·rw[dG (tk:=2) (lv:=([98,97]:Str).map fun c=>(s.drop (s.length-2)).getD (c.toNat-97) 0) rfl rfl]
  exact iz _ s limit 2 [98,97] hs hm (by decide) (by decide) (by decide) (by decide) rfl (by decide) (by decide) (by decide)
 ·rw[dG (tk:=2) (lv:=([97,98,97]:Str).map fun c=>(s.drop (s.length-2)).getD (c.toNat-97) 0) rfl rfl]
  exact iz _ s limit 2 [97,98,97] hs hm (by decide) (by decide) (by decide) (by decide) rfl (by decide) (by decide) (by decide)
 ·rw[dG (tk:=2) (lv:=([98]:Str).map fun c=>(s.drop (s.length-2)).getD (c.toNat-97) 0) rfl rfl]
  exact iz _ s limit 2 [98] hs hm (by decide) (by decide) (by decide) (by decide) rfl (by decide) (by decide) (by decide)
 ·rw[dG (tk:=2) (lv:=([98,97,98]:Str).map fun c=>(s.drop (s.length-2)).getD (c.toNat-97) 0) rfl rfl]
  exact iz _ s limit 2 [98,97,98] hs hm (by decide) (by decide) (by decide) (by decide) rfl (by decide) (by decide) (by decide)
 ·rw[dG (tk:=3) (lv:=([98,99,97]:Str).map fun c=>(s.drop (s.length-3)).getD (c.toNat-97) 0) rfl rfl]
  exact iz _ s limit 3 [98,99,97] hs hm (by decide) (by decide) (by decide) (by decide) rfl (by decide) (by decide) (by decide)
 ·rw[dG (tk:=3) (lv:=([99,97,98]:Str).map fun c=>(s.drop (s.length-3)).getD (c.toNat-97) 0) rfl rfl]
  exact iz _ s limit 3 [99,97,98] hs hm (by decide) (by decide) (by decide) (by decide) rfl (by decide) (by decide) (by decide)
 ·rw[dG (tk:=2) (lv:=([97,98,97,98]:Str).map fun c=>(s.drop (s.length-2)).getD (c.toNat-97) 0) rfl rfl]
  exact iz _ s limit 2 [97,98,97,98] hs hm (by decide) (by decide) (by decide) (by decide) rfl (by decide) (by decide) (by decide)
 ·rw[dG (tk:=2) (lv:=([]:Str).map fun c=>(s.drop (s.length-2)).getD (c.toNat-97) 0) rfl rfl]
  exact iz _ s limit 2 [] hs hm (by decide) (by decide) (by decide) (by decide) rfl (by decide) (by decide) (by decide)
 ·rw[dG (tk:=4) (lv:=([99,100,97,98]:Str).map fun c=>(s.drop (s.length-4)).getD (c.toNat-97) 0) rfl rfl]
  exact iz _ s limit 4 [99,100,97,98] hs hm (by decide) (by decide) (by decide) (by decide) rfl (by decide) (by decide) (by decide)
 ·rw[dG (tk:=4) (lv:=([97,98,99,100,97,98]:Str).map fun c=>(s.drop (s.length-4)).getD (c.toNat-97) 0) rfl rfl]
  exact iz _ s limit 4 [97,98,99,100,97,98] hs hm (by decide) (by decide) (by decide) (by decide) rfl (by decide) (by decide) (by decide)
 ·rw[<-EW];exact Qe s limit hs hm
 ·rw[<-we (name:=[80,73,67,75]) (roll:=false) rfl (fun _ _=>rfl)];exact Qh s limit hs hm
 ·rw[<-we (name:=[82,79,76,76]) (roll:=true) rfl (fun _ _=>rfl)];exact Qy s limit hs hm
 exact Nh s limit hs hm
theorem tu(n:Int):ab prog 165 [i64 n] (boo (decide (23<=n/\n<=129))):=by
 refine zY func165 fun B=>?_
 refine zu1 ?_
 refine zp3 ?_
 refine Wb 5 rfl (fun hg1=>?_) (fun hg1=>?_)
 ·have h0:23<=n:=oT hg1
  refine zs4 ?_
  refine zR ?_
  exact congrArg boo (by rw[Bool.eq_iff_iff,decide_eq_true_eq,decide_eq_true_eq];omega)
 have h0:¬23<=n:=oF hg1
 iterate 2 refine z6 ?_
 refine zs2 ?_
 refine zR ?_
 exact congrArg boo (decide_eq_false (by omega)).symm
theorem aB7(name:Str)(x:List Int)(hx:XOk 2 x):ab prog 241 ([sq ap x]++[.row [str name]]) (tLv ([(lU name (xat x 0) (xat x 1)).1],(lU name (xat x 0) (xat x 1)).2.2)):=by
 have hl:=hx.len
 refine zY func241 fun B=>?_
 refine zu2 ?_
 refine Ws<|az [1,0,0,1,0,0,1,0,0,0,0,0,0,0,0] [0,1,2,3,4,5,6,7,8,9,10,11,12,13,14] mG rfl (by kernel_rfl) ?_
 refine z5 ?_
 refine z3 ?_
 refine z9i ?_
 refine z5 ?_
 refine z3 ?_
 refine z9i ?_
 refine z5 ?_
 refine Xc rfl rfl rfl rfl (fun _=>dC rfl func242 rfl rfl ((WS name _ _ (hx.fit 1)) _)) ?_
 iterate 7 refine z3 ?_
 refine aP ?_
 refine zp2 ?_
 refine Wa 21 rfl (bsL ap [_] rfl rfl) ?_
 refine zs3 ?_
 refine zR ?_
 rfl
theorem aC2(name:Str)(x:List Int)(hx:XOk 1 x):ab prog 243 ([sq ap x]++[.row [str name]]) (tLv ([(v7 name (xat x 0)).1],0)):=by
 have hl:=hx.len
 refine zY func243 fun B=>?_
 refine zu2 ?_
 refine Ws<|az [1,0,0,1,0,0,0,0,0,0] [0,1,2,3,4,5,6,7,8,9] mG rfl (by kernel_rfl) ?_
 refine z5 ?_
 refine z3 ?_
 refine z9i ?_
 refine z5 ?_
 refine Xc rfl rfl rfl rfl (fun _=>dC rfl func244 rfl rfl ((KB name _ (hx.fit 0)) _)) ?_
 iterate 5 refine z3 ?_
 refine aP ?_
 refine zp2 ?_
 refine Wa 16 rfl (bsL ap [_] rfl rfl) ?_
 refine zc rfl func245 ((lF _) _) ?_
 refine zs4 ?_
 refine zR ?_
 rfl
theorem Na(n:Int)(name:Str)(hn:n<=58):ab prog 200 [i64 n,str name] (bm 2 271 [.row [fnP 241 [.row [str name]]]]):=by
 refine zY func200 fun B=>?_
 refine zp1 ?_
 refine bP 3 _ rfl rfl rfl ?_
 refine zs1 ?_
 refine Ws<|Wl<|zu3 ?_
 refine Wt rfl (by exact decide_eq_true hn) ?_
 refine zp1 ?_
 refine zc rfl func240 ((jt 2 241 [.row [str name]] (by simp)) _) ?_
 refine zs1 ?_
 refine zR ?_
 rfl
theorem Nv(n:Int)(name:Str)(h0:58<n)(hn:n<=72):ab prog 200 [i64 n,str name] (bm 1 271 [.row [fnP 243 [.row [str name]]]]):=by
 refine zY func200 fun B=>?_
 refine zp1 ?_
 refine bP 3 _ rfl rfl rfl ?_
 refine zs1 ?_
 refine Ws<|Wl<|zu3 ?_
 refine Wf rfl (by exact decide_eq_false (by omega)) ?_
 refine zu3 ?_
 refine Wt rfl (by exact decide_eq_true hn) ?_
 refine zp1 ?_
 refine zc rfl func240 ((jt 1 243 [.row [str name]] (by simp)) _) ?_
 refine zs1 ?_
 refine zR ?_
 rfl
def doR(v:VVm)(k:Nat)(r:VVm×List Int×Int):VVm×Int :=
 if v.d.length<k then(v,-4)else if r.2.2≠0 then(v,r.2.2)else
 if v.conf.data<((v.d.length-k+r.2.1.length:Nat):Int)then(v,-3)else({r.1 with d:=v.d.take (v.d.length-k)++r.2.1},0)
theorem ad4(v:VVm)(n:Int)(hn:¬(23<=n/\n<=129)):ab prog 166 [eVm v,i64 n] (tVm (v,-24)):=by
 refine zY func166 fun B=>?_
 refine zu3 ?_
 refine Ws<|zp1 ?_
 refine zc rfl func165 ((tu n) _) ?_
 refine zs1 ?_
 refine Wt rfl (by rw[decide_eq_false hn];rfl) ?_
 refine zu3 ?_
 refine zR ?_
 rfl
theorem xi:ao.length=130:=lm
theorem JS(v:VVm)(n:Int)(h0:23<=n)(h1:n<=38)(hs:ao.getD n.toNat []∈pp)(hd:v.d.length<=100000)(hm:ae v.conf.data):
  ab prog 166 [eVm v,i64 n] (tVm ({v with d:=(dJ (ao.getD n.toNat []) v.d v.conf.data).1},(dJ (ao.getD n.toNat []) v.d v.conf.data).2.2)):=by
 have hN:=xi
 refine zY func166 fun B=>?_
 refine zu3 ?_
 refine Ws<|zp1 ?_
 refine zc rfl func165 ((tu n) _) ?_
 refine zs1 ?_
 refine Wf rfl (by rw[decide_eq_true ⟨h0,by omega⟩];rfl) ?_
 refine Wj<|z8 ?_
 refine zc rfl func98 ((nU) _) ?_
 refine z1 ?_
 refine Wv tG rfl rfl rfl (by omega) (iR gy 1 (fun _=>rfl) [] (by omega)) ?_
 refine zs2 ?_
 refine zu3 ?_
 refine Ws<|zu2 ?_
 refine Wt rfl (by exact decide_eq_true h1) ?_
 refine zp5 ?_
 refine z1 ?_
 refine zc rfl func199 ((Fu _ hs _ _ hd hm) _) ?_
 refine zy5 ?_
 refine zs2 ?_
 refine zu3 ?_
 refine zu4 ?_
 refine zR ?_
 rfl
theorem aW(v:VVm)(n:Int)(k:Nat)(f:FuncId)(cap:List PV)(r:VVm×List Int×Int)(h0:39<=n)(h1:n<=129)(hdl:v.d.length<=100000)(hm:ae v.conf.data)(hk:k<=10)(hc:ay cap)
  (hf:ab prog 200 [i64 n,str (ao.getD n.toNat [])] (bm k f cap)) (hr:r.2.1.length<=10)
  (hd:k<=v.d.length->∀(H:List Ob) (i:Nat),H[i]?=some (.cells (cVm v) 37)->nX prog f (.ptr i 0::([sq ap (v.d.drop (v.d.length-k))]++cap)) H (tLv r.2) (H.set i (.cells (cVm r.1) 37))) :
  ab prog 166 [eVm v,i64 n] (tVm (doR v k r)):=by
 have hN:=xi
 have ht:(v.d.take (v.d.length-k)).length=v.d.length-k:=by rw[List.length_take];omega
 refine zY func166 fun B=>?_
 refine zu3 ?_
 refine Ws<|zp1 ?_
 refine zc rfl func165 ((tu n) _) ?_
 refine zs1 ?_
 refine Wf rfl (by rw[decide_eq_true ⟨by omega,h1⟩];rfl) ?_
 refine Wj<|z8 ?_
 refine zc rfl func98 ((nU) _) ?_
 refine z1 ?_
 refine Wv tG rfl rfl rfl (by omega) (iR gy 1 (fun _=>rfl) [] (by omega)) ?_
 refine zs2 ?_
 refine zu3 ?_
 refine Ws<|zu2 ?_
 refine Wf rfl (by exact decide_eq_false (by omega)) ?_
 refine Wj<|zp2 ?_
 refine zc rfl func200 ((hf) _) ?_
 refine zs2 ?_
 refine Ws<|zp5 ?_
 refine zs1 ?_
 refine Wi rfl (fun hi3=>?_) (fun hi3=>?_)
 ·have q0:v.d.length<k:=by(try simp only[dnL]at *);omega
  refine zu3 ?_
  refine zR ?_
  rw[doR,if_pos q0];rfl
 have q0:¬v.d.length<k:=by(try simp only[dnL]at *);omega
 have w1:IntKind.i64.wrap ((v.d.length:Int)-(k:Int))=((v.d.length-k:Nat):Int):=by((rw[bS];unfold wrap64;(try simp only[dnL]at *);omega))
 have w2:IntKind.i64.wrap (((v.d.length-k:Nat):Int)+(r.2.1.length:Int))=((v.d.length-k+r.2.1.length:Nat):Int):=by((rw[bS];unfold wrap64;(try simp only[dnL]at *);omega))
 refine Wj<|zp5 ?_
 refine z1 ?_
 refine Wa 56 rfl (congrArg (fun z=>PV.val (Value.int .i64 z)) w1) ?_
 refine zs1 ?_
 refine Ws<|V.az [0,10,0,4,0,0,0,9,0,0,0,0,0] [0,1,2,3,4,5,6,7,8,9,10,11,12] mG rfl (by kernel_rfl) ?_
 refine V.z3 ?_
 refine V.FT 3 rfl rfl rfl rfl rfl (fun H2 h2=>bB (lO tG rfl) rfl rfl h2 rfl) ?_
 refine V.z3 ?_
 refine V.FT 0 rfl rfl rfl rfl rfl (fun H2 h2=>bB (lO tG rfl) rfl rfl h2 rfl) ?_
 refine V.z3 ?_
 refine V.z4 ?_ (q:=(by(simp_all;done)))
 refine V.Xa 63 rfl (cK ap 1 (fun _=>rfl) (by omega)) ?_
 refine V.Xa 63 rfl ((show _=sq ap (v.d.drop (v.d.length-k)) by rw[List.take_length,Int.toNat_natCast];rfl)) ?_
 refine V.Xc rfl rfl rfl rfl (fun _=>dC rfl func201 rfl rfl ((In _ (by simp;omega)) _)) ?_
 refine V.Zn 2 rfl rfl rfl rfl (eO rfl rfl (hd (by omega) _ 2 rfl)) rfl ?_
 iterate 5 refine V.z3 ?_
 refine V.aP ?_
 refine Ws<|zu2 ?_
 refine Wi rfl (fun hi4=>?_) (fun hi4=>?_)
 ·have q1:r.2.2≠0:=bne_iff_ne.1 hi4
  refine zu4 ?_
  refine zR ?_
  rw[doR,if_neg q0,if_pos q1];rfl
 have q1:¬r.2.2≠0:=fun h=>h (bne_eq_false_iff_eq.1 hi4)
 refine Wj<|Ws<|zp4 ?_
 refine Wa 75 rfl (congrArg (fun z=>PV.val (Value.int .i64 z)) w2) ?_
 refine zs4 ?_
 refine Wi rfl (fun hi5=>?_) (fun hi5=>?_)
 ·have q2:v.conf.data<((v.d.length-k+r.2.1.length:Nat):Int):=oT hi5
  refine zu3 ?_
  refine zR ?_
  rw[doR,if_neg q0,if_neg q1,if_pos q2];rfl
 have q2:¬v.conf.data<((v.d.length-k+r.2.1.length:Nat):Int):=oF hi5
 refine Wj<|zp3 ?_
 refine z2 ?_ (q:=(by(simp_all;done)))
 refine Wa 84 rfl (cK ap 1 (fun _=>rfl) (by omega)) ?_
 refine Wa 84 rfl ((show _=sq ap (v.d.take (v.d.length-k)) by rw[Int.toNat_natCast,List.drop_zero];rfl)) ?_
 refine zy2 ?_
 refine Wa 86 rfl (bsL BH [_,_] rfl rfl) ?_
 refine zc rfl func202 ((Lm _ _ (by rw[ht];omega) (by omega)) _) ?_
 refine zs2 ?_
 refine zu3 ?_
 refine zR ?_
 rw[doR,if_neg q0,if_neg q1,if_neg q2];rfl
structure dA (v:VVm):Prop where
 mem:cZ v.mem
 old:v.mem.old.length+1<=1000000
 here:ia v.mem v.here
 out2:0<=v.conf.out/\v.conf.out<=900000
 out:v.out.length<=1000000
 pic:v.pic.b.length<=1000000
 req:v.req.length<=100000
 hand:v.hand.length<=1000000
 d:v.d.length<=50000
 fit:∀a∈v.d,ae a
 data:ae v.conf.data
theorem dA.out1{v:VVm}(h:dA v):0<=v.conf.out/\v.conf.out<=1000000:=by have:=h.out2;omega
theorem dA.x{v:VVm}(h:dA v){k:Nat}(hk:k<=v.d.length):XOk k (v.d.drop (v.d.length-k)) :=
 ⟨by rw[List.length_drop];omega,fun a ha=>h.fit a (List.mem_of_mem_drop ha)⟩
theorem EP(m:bj)(a n:Int):(dN m a n).1.length<=m.b.length:=by
 unfold dN
 split
 ·simp only[List.length_take,List.length_drop];omega
 simp
theorem MZ(b:Nat):∀k u,(tN b k u).length<=k+1:=by
 intro k
 induction k with
 | zero=>intro u;simp[tN]
 | succ k ih=>intro u;unfold tN;split<;>simp;have:=ih (u/b);omega
theorem rZ(u b:Nat):(nZ u b).length<=900:=by
 unfold nZ
 have:=MZ b 64 u
 simp only[List.length_reverse,List.length_map]
 omega
theorem BV(n b:Int):(iU n b).1.length<=1000:=by
 unfold iU
 split
 ·simp only
  split
  ·have:=rZ (U n) b.toNat;omega
  have:=rZ (U (wrap64 (-n))) b.toNat;simp only[List.length_cons];omega
 simp
theorem aH{v:VVm}{n:Int}(h0:39<=n)(h1:n<=129):doS v n=doR v (bi n (ao.getD n.toNat [])) (bM v n (ao.getD n.toNat []) (v.d.drop (v.d.length-bi n (ao.getD n.toNat [])))):=by
 unfold doS doR
 rw[if_neg (by omega)]
 simp only
 rw[if_neg (by omega)]
theorem Mj{v:VVm}{k:Nat}{r r':VVm×List Int×Int}(h1:r'.2.2=r.2.2)(h2:r.2.2=0->r'=r):doR v k r'=doR v k r:=by
 by_cases h:r.2.2=0
 ·rw[h2 h]
 unfold doR
 rw[h1]
 simp only[h,ne_eq,not_false_eq_true,if_true]
theorem NO(v:VVm)(x:List Int):(v,bJ v x).2.2=(vJ v x).2.2:=by
 unfold bJ vJ
 split<;>rfl
theorem UN(v:VVm)(x:List Int)(h:(vJ v x).2.2=0):(v,bJ v x)=vJ v x:=by
 unfold bJ vJ at *
 split at h
 ·cases h
 rename_i hc;rw[if_neg hc,if_neg hc]
theorem AI(n b:Int):(gF n b).1.length<=1000:=by
 unfold gF
 split
 ·have:=rZ (U n) b.toNat;simp only;omega
 simp
theorem ag0(v:VVm)(hv:dA v)(n:Int)(h0:39<=n)(h1:n<=58):ab prog 166 [eVm v,i64 n] (tVm (doS v n)):=by
 have hk:bi n (ao.getD n.toNat [])=2:=by unfold bi;rw[if_pos h1]
 rw[aH h0 (by omega),hk]
 have e:∀x,bM v n (ao.getD n.toNat []) x=(v,[(lU (ao.getD n.toNat []) (xat x 0) (xat x 1)).1],(lU (ao.getD n.toNat []) (xat x 0) (xat x 1)).2.2):=fun x=>by unfold bM;rw[if_pos h1]
 rw[e]
 exact aW v n 2 271 _ _ h0 (by omega) (by have:=hv.d;omega) hv.data (by omega) (by simp) (Na n _ h1) (by simp) (fun hk H i hi=>⟨⟨_,func271,rfl,rfl⟩,lw 241 [.row [str (ao.getD n.toNat [])]] v _ _ (by simp) (fun H=>⟨⟨_,func241,rfl,rfl⟩,aB7 _ _ (hv.x hk) H⟩) H i hi⟩)
theorem ZO(v:VVm)(hv:dA v)(n:Int)(h0:58<n)(h1:n<=72):ab prog 166 [eVm v,i64 n] (tVm (doS v n)):=by
 have hk:bi n (ao.getD n.toNat [])=1:=by unfold bi;rw[if_neg (by omega),if_pos h1]
 rw[aH (by omega) (by omega),hk]
 have e:∀x,bM v n (ao.getD n.toNat []) x=(v,[(v7 (ao.getD n.toNat []) (xat x 0)).1],0):=fun x=>by unfold bM;rw[if_neg (by omega),if_pos h1]
 rw[e]
 exact aW v n 1 271 _ _ (by omega) (by omega) (by have:=hv.d;omega) hv.data (by omega) (by simp) (Nv n _ h0 h1) (by simp) (fun hk H i hi=>⟨⟨_,func271,rfl,rfl⟩,lw 243 [.row [str (ao.getD n.toNat [])]] v _ _ (by simp) (fun H=>⟨⟨_,func243,rfl,rfl⟩,aC2 _ _ (hv.x hk) H⟩) H i hi⟩)
theorem ar6(v:VVm)(x:List Int):bM v 73 [47,77,79,68] x=(v,bA x):=by kernel_rfl
theorem ap9(v:VVm)(hv:dA v):ab prog 166 [eVm v,i64 73] (tVm (doS v 73)):=by
 have hk:bi 73 (ao.getD (73:Int).toNat [])=2:=by kernel_rfl
 have hn:ao.getD (73:Int).toNat []=[47,77,79,68]:=by kernel_rfl
 rw[aH (by decide) (by decide),hk,hn,ar6]
 refine aW v 73 2 271 [.row [fnP 280 pc]] _ (by decide) (by decide) (by have:=hv.d;omega) hv.data (by decide) (by simp) (by rw[hn];exact jI 73 _ _ _ _ (by decide) (by simp)  rfl) (by(show List.length _<=_;simp[bY,bF,du,eJ,fJ,fZ,fL,bW,bA,be,dj,pUM,pM,dh,dk,di,pSD,bz,bJ])) (fun hk H i hi=>?_)
 have hx:=hv.x hk
 generalize v.d.drop (v.d.length-2)=x at hx ⊢
 exact⟨⟨_,func271,rfl,rfl⟩,lw 280 pc v x (v,bA x).2 (by simp) (fun H=>⟨⟨_,func280,rfl,rfl⟩,aA8 x hx H⟩) H i hi⟩
theorem ak2(v:VVm)(x:List Int):bM v 75 [42,47,77,79,68] x=(v,be x):=by kernel_rfl
theorem ar8(v:VVm)(hv:dA v):ab prog 166 [eVm v,i64 75] (tVm (doS v 75)):=by
 have hk:bi 75 (ao.getD (75:Int).toNat [])=3:=by kernel_rfl
 have hn:ao.getD (75:Int).toNat []=[42,47,77,79,68]:=by kernel_rfl
 rw[aH (by decide) (by decide),hk,hn,ak2]
 refine aW v 75 3 271 [.row [fnP 281 FP]] _ (by decide) (by decide) (by have:=hv.d;omega) hv.data (by decide) (by simp) (by rw[hn];exact jI 75 _ _ _ _ (by decide) (by simp)  rfl) (by(show List.length _<=_;simp[bY,bF,du,eJ,fJ,fZ,fL,bW,bA,be,dj,pUM,pM,dh,dk,di,pSD,bz,bJ])) (fun hk H i hi=>?_)
 have hx:=hv.x hk
 generalize v.d.drop (v.d.length-3)=x at hx ⊢
 exact⟨⟨_,func271,rfl,rfl⟩,lw 281 FP v x (v,be x).2 (by simp) (fun H=>⟨⟨_,func281,rfl,rfl⟩,aB5 x hx H⟩) H i hi⟩
theorem at6(v:VVm)(x:List Int):bM v 74 [42,47] x=(v,dj x):=by kernel_rfl
theorem as1(v:VVm)(hv:dA v):ab prog 166 [eVm v,i64 74] (tVm (doS v 74)):=by
 have hk:bi 74 (ao.getD (74:Int).toNat [])=3:=by kernel_rfl
 have hn:ao.getD (74:Int).toNat []=[42,47]:=by kernel_rfl
 rw[aH (by decide) (by decide),hk,hn,at6]
 refine aW v 74 3 271 [.row [fnP 282 RB]] _ (by decide) (by decide) (by have:=hv.d;omega) hv.data (by decide) (by simp) (by rw[hn];exact jI 74 _ _ _ _ (by decide) (by simp)  rfl) (by(show List.length _<=_;simp[bY,bF,du,eJ,fJ,fZ,fL,bW,bA,be,dj,pUM,pM,dh,dk,di,pSD,bz,bJ])) (fun hk H i hi=>?_)
 have hx:=hv.x hk
 generalize v.d.drop (v.d.length-3)=x at hx ⊢
 exact⟨⟨_,func271,rfl,rfl⟩,lw 282 RB v x (v,dj x).2 (by simp) (fun H=>⟨⟨_,func282,rfl,rfl⟩,aA1 x hx H⟩) H i hi⟩
theorem aq1(v:VVm)(x:List Int):bM v 76 [85,77,42] x=(v,pUM x):=by kernel_rfl
theorem aw5(v:VVm)(hv:dA v):ab prog 166 [eVm v,i64 76] (tVm (doS v 76)):=by
 have hk:bi 76 (ao.getD (76:Int).toNat [])=2:=by kernel_rfl
 have hn:ao.getD (76:Int).toNat []=[85,77,42]:=by kernel_rfl
 rw[aH (by decide) (by decide),hk,hn,aq1]
 refine aW v 76 2 271 [.row [fnP 283 []]] _ (by decide) (by decide) (by have:=hv.d;omega) hv.data (by decide) (by simp) (by rw[hn];exact jI 76 _ _ _ _ (by decide) (by simp)  rfl) (by(show List.length _<=_;simp[bY,bF,du,eJ,fJ,fZ,fL,bW,bA,be,dj,pUM,pM,dh,dk,di,pSD,bz,bJ])) (fun hk H i hi=>?_)
 have hx:=hv.x hk
 generalize v.d.drop (v.d.length-2)=x at hx ⊢
 exact⟨⟨_,func271,rfl,rfl⟩,lw 283 [] v x (v,pUM x).2 (by simp) (fun H=>⟨⟨_,func283,rfl,rfl⟩,az0 x hx H⟩) H i hi⟩
theorem ak7(v:VVm)(x:List Int):bM v 78 [77,42] x=(v,pM x):=by kernel_rfl
theorem an7(v:VVm)(hv:dA v):ab prog 166 [eVm v,i64 78] (tVm (doS v 78)):=by
 have hk:bi 78 (ao.getD (78:Int).toNat [])=2:=by kernel_rfl
 have hn:ao.getD (78:Int).toNat []=[77,42]:=by kernel_rfl
 rw[aH (by decide) (by decide),hk,hn,ak7]
 refine aW v 78 2 271 [.row [fnP 285 []]] _ (by decide) (by decide) (by have:=hv.d;omega) hv.data (by decide) (by simp) (by rw[hn];exact jI 78 _ _ _ _ (by decide) (by simp)  rfl) (by(show List.length _<=_;simp[bY,bF,du,eJ,fJ,fZ,fL,bW,bA,be,dj,pUM,pM,dh,dk,di,pSD,bz,bJ])) (fun hk H i hi=>?_)
 have hx:=hv.x hk
 generalize v.d.drop (v.d.length-2)=x at hx ⊢
 exact⟨⟨_,func271,rfl,rfl⟩,lw 285 [] v x (v,pM x).2 (by simp) (fun H=>⟨⟨_,func285,rfl,rfl⟩,az4 x hx H⟩) H i hi⟩
theorem al1(v:VVm)(x:List Int):bM v 77 [85,77,47,77,79,68] x=(v,dh x):=by kernel_rfl
theorem at8(v:VVm)(hv:dA v):ab prog 166 [eVm v,i64 77] (tVm (doS v 77)):=by
 have hk:bi 77 (ao.getD (77:Int).toNat [])=3:=by kernel_rfl
 have hn:ao.getD (77:Int).toNat []=[85,77,47,77,79,68]:=by kernel_rfl
 rw[aH (by decide) (by decide),hk,hn,al1]
 refine aW v 77 3 271 [.row [fnP 286 pc]] _ (by decide) (by decide) (by have:=hv.d;omega) hv.data (by decide) (by simp) (by rw[hn];exact jI 77 _ _ _ _ (by decide) (by simp)  rfl) (by(show List.length _<=_;simp[bY,bF,du,eJ,fJ,fZ,fL,bW,bA,be,dj,pUM,pM,dh,dk,di,pSD,bz,bJ])) (fun hk H i hi=>?_)
 have hx:=hv.x hk
 generalize v.d.drop (v.d.length-3)=x at hx ⊢
 exact⟨⟨_,func271,rfl,rfl⟩,lw 286 pc v x (v,dh x).2 (by simp) (fun H=>⟨⟨_,func286,rfl,rfl⟩,aA3 x hx H⟩) H i hi⟩
theorem ap4(v:VVm)(x:List Int):bM v 79 [83,77,47,82,69,77] x=(v,dk x):=by kernel_rfl
theorem as2(v:VVm)(hv:dA v):ab prog 166 [eVm v,i64 79] (tVm (doS v 79)):=by
 have hk:bi 79 (ao.getD (79:Int).toNat [])=3:=by kernel_rfl
 have hn:ao.getD (79:Int).toNat []=[83,77,47,82,69,77]:=by kernel_rfl
 rw[aH (by decide) (by decide),hk,hn,ap4]
 refine aW v 79 3 271 [.row [fnP 288 pc]] _ (by decide) (by decide) (by have:=hv.d;omega) hv.data (by decide) (by simp) (by rw[hn];exact jI 79 _ _ _ _ (by decide) (by simp)  rfl) (by(show List.length _<=_;simp[bY,bF,du,eJ,fJ,fZ,fL,bW,bA,be,dj,pUM,pM,dh,dk,di,pSD,bz,bJ])) (fun hk H i hi=>?_)
 have hx:=hv.x hk
 generalize v.d.drop (v.d.length-3)=x at hx ⊢
 exact⟨⟨_,func271,rfl,rfl⟩,lw 288 pc v x (v,dk x).2 (by simp) (fun H=>⟨⟨_,func288,rfl,rfl⟩,aB9 x hx H⟩) H i hi⟩
theorem aw3(v:VVm)(x:List Int):bM v 80 [70,77,47,77,79,68] x=(v,di x):=by kernel_rfl
theorem ap3(v:VVm)(hv:dA v):ab prog 166 [eVm v,i64 80] (tVm (doS v 80)):=by
 have hk:bi 80 (ao.getD (80:Int).toNat [])=3:=by kernel_rfl
 have hn:ao.getD (80:Int).toNat []=[70,77,47,77,79,68]:=by kernel_rfl
 rw[aH (by decide) (by decide),hk,hn,aw3]
 refine aW v 80 3 271 [.row [fnP 290 pc]] _ (by decide) (by decide) (by have:=hv.d;omega) hv.data (by decide) (by simp) (by rw[hn];exact jI 80 _ _ _ _ (by decide) (by simp)  rfl) (by(show List.length _<=_;simp[bY,bF,du,eJ,fJ,fZ,fL,bW,bA,be,dj,pUM,pM,dh,dk,di,pSD,bz,bJ])) (fun hk H i hi=>?_)
 have hx:=hv.x hk
 generalize v.d.drop (v.d.length-3)=x at hx ⊢
 exact⟨⟨_,func271,rfl,rfl⟩,lw 290 pc v x (v,di x).2 (by simp) (fun H=>⟨⟨_,func290,rfl,rfl⟩,aw7 x hx H⟩) H i hi⟩
theorem am3(v:VVm)(x:List Int):bM v 81 [83,62,68] x=(v,pSD x):=by kernel_rfl
theorem au9(v:VVm)(hv:dA v):ab prog 166 [eVm v,i64 81] (tVm (doS v 81)):=by
 have hk:bi 81 (ao.getD (81:Int).toNat [])=1:=by kernel_rfl
 have hn:ao.getD (81:Int).toNat []=[83,62,68]:=by kernel_rfl
 rw[aH (by decide) (by decide),hk,hn,am3]
 refine aW v 81 1 271 [.row [fnP 291 []]] _ (by decide) (by decide) (by have:=hv.d;omega) hv.data (by decide) (by simp) (by rw[hn];exact jI 81 _ _ _ _ (by decide) (by simp)  rfl) (by(show List.length _<=_;simp[bY,bF,du,eJ,fJ,fZ,fL,bW,bA,be,dj,pUM,pM,dh,dk,di,pSD,bz,bJ])) (fun hk H i hi=>?_)
 have hx:=hv.x hk
 generalize v.d.drop (v.d.length-1)=x at hx ⊢
 exact⟨⟨_,func271,rfl,rfl⟩,lw 291 [] v x (v,pSD x).2 (by simp) (fun H=>⟨⟨_,func291,rfl,rfl⟩,ax4 x hx H⟩) H i hi⟩
theorem aq8(v:VVm)(x:List Int):bM v 82 [87,73,84,72,73,78] x=(v,bz x):=by kernel_rfl
theorem av9(v:VVm)(hv:dA v):ab prog 166 [eVm v,i64 82] (tVm (doS v 82)):=by
 have hk:bi 82 (ao.getD (82:Int).toNat [])=3:=by kernel_rfl
 have hn:ao.getD (82:Int).toNat []=[87,73,84,72,73,78]:=by kernel_rfl
 rw[aH (by decide) (by decide),hk,hn,aq8]
 refine aW v 82 3 271 [.row [fnP 293 []]] _ (by decide) (by decide) (by have:=hv.d;omega) hv.data (by decide) (by simp) (by rw[hn];exact jI 82 _ _ _ _ (by decide) (by simp)  rfl) (by(show List.length _<=_;simp[bY,bF,du,eJ,fJ,fZ,fL,bW,bA,be,dj,pUM,pM,dh,dk,di,pSD,bz,bJ])) (fun hk H i hi=>?_)
 have hx:=hv.x hk
 generalize v.d.drop (v.d.length-3)=x at hx ⊢
 exact⟨⟨_,func271,rfl,rfl⟩,lw 293 [] v x (v,bz x).2 (by simp) (fun H=>⟨⟨_,func293,rfl,rfl⟩,at5 x hx H⟩) H i hi⟩
theorem aw6(v:VVm)(x:List Int):bM v 83 [64] x=bY v x:=by kernel_rfl
theorem av8(v:VVm)(hv:dA v):ab prog 166 [eVm v,i64 83] (tVm (doS v 83)):=by
 have hk:bi 83 (ao.getD (83:Int).toNat [])=1:=by kernel_rfl
 have hn:ao.getD (83:Int).toNat []=[64]:=by kernel_rfl
 rw[aH (by decide) (by decide),hk,hn,aw6]
 refine aW v 83 1 367 [.row [fnP 39 []]] _ (by decide) (by decide) (by have:=hv.d;omega) hv.data (by decide) (by simp) (by rw[hn];exact jM 83 _ _ _ _ (by decide) (by simp) rfl rfl) (by(show List.length _<=_;simp[bY,bF,du,eJ,fJ,fZ,fL,bW,bA,be,dj,pUM,pM,dh,dk,di,pSD,bz,bJ])) (fun hk H i hi=>?_)
 have hx:=hv.x hk
 generalize v.d.drop (v.d.length-1)=x at hx ⊢
 exact⟨⟨_,func367,rfl,rfl⟩,wX 39 [] v x _ hx.len (by simp) (fun H=>⟨⟨_,func39,rfl,rfl⟩,(gi v.mem _ (gj hv.mem) (hx.fit 0)) H⟩) H i hi⟩
theorem av0(v:VVm)(x:List Int):bM v 86 [67,64] x=bF v x:=by kernel_rfl
theorem ak8(v:VVm)(hv:dA v):ab prog 166 [eVm v,i64 86] (tVm (doS v 86)):=by
 have hk:bi 86 (ao.getD (86:Int).toNat [])=1:=by kernel_rfl
 have hn:ao.getD (86:Int).toNat []=[67,64]:=by kernel_rfl
 rw[aH (by decide) (by decide),hk,hn,av0]
 refine aW v 86 1 367 [.row [fnP 296 []]] _ (by decide) (by decide) (by have:=hv.d;omega) hv.data (by decide) (by simp) (by rw[hn];exact jM 86 _ _ _ _ (by decide) (by simp) rfl rfl) (by(show List.length _<=_;simp[bY,bF,du,eJ,fJ,fZ,fL,bW,bA,be,dj,pUM,pM,dh,dk,di,pSD,bz,bJ])) (fun hk H i hi=>?_)
 have hx:=hv.x hk
 generalize v.d.drop (v.d.length-1)=x at hx ⊢
 exact⟨⟨_,func367,rfl,rfl⟩,wX 296 [] v x _ hx.len (by simp) (fun H=>⟨⟨_,func296,rfl,rfl⟩,(tY v.mem _ hv.mem (hx.fit 0)) H⟩) H i hi⟩
theorem am4(v:VVm)(x:List Int):bM v 84 [33] x=du v (aF v.mem (xat x 1) (xat x 0)):=by kernel_rfl
theorem am5(v:VVm)(hv:dA v):ab prog 166 [eVm v,i64 84] (tVm (doS v 84)):=by
 have hk:bi 84 (ao.getD (84:Int).toNat [])=2:=by kernel_rfl
 have hn:ao.getD (84:Int).toNat []=[33]:=by kernel_rfl
 rw[aH (by decide) (by decide),hk,hn,am4]
 refine aW v 84 2 368 [.row [fnP 298 []]] _ (by decide) (by decide) (by have:=hv.d;omega) hv.data (by decide) (by simp) (by rw[hn];exact jM 84 _ _ _ _ (by decide) (by simp) rfl rfl) (by(show List.length _<=_;simp[bY,bF,du,eJ,fJ,fZ,fL,bW,bA,be,dj,pUM,pM,dh,dk,di,pSD,bz,bJ])) (fun hk H i hi=>?_)
 have hx:=hv.x hk
 generalize v.d.drop (v.d.length-2)=x at hx ⊢
 exact⟨⟨_,func368,rfl,rfl⟩,nH 298 [] v x _ (by simp) (fun H=>⟨⟨_,func298,rfl,rfl⟩,aC4 v x hv.mem hx H⟩) H i hi⟩
theorem av7(v:VVm)(x:List Int):bM v 87 [67,33] x=du v (m6 v.mem (xat x 1) (xat x 0)):=by kernel_rfl
theorem aw4(v:VVm)(hv:dA v):ab prog 166 [eVm v,i64 87] (tVm (doS v 87)):=by
 have hk:bi 87 (ao.getD (87:Int).toNat [])=2:=by kernel_rfl
 have hn:ao.getD (87:Int).toNat []=[67,33]:=by kernel_rfl
 rw[aH (by decide) (by decide),hk,hn,av7]
 refine aW v 87 2 368 [.row [fnP 299 []]] _ (by decide) (by decide) (by have:=hv.d;omega) hv.data (by decide) (by simp) (by rw[hn];exact jM 87 _ _ _ _ (by decide) (by simp) rfl rfl) (by(show List.length _<=_;simp[bY,bF,du,eJ,fJ,fZ,fL,bW,bA,be,dj,pUM,pM,dh,dk,di,pSD,bz,bJ])) (fun hk H i hi=>?_)
 have hx:=hv.x hk
 generalize v.d.drop (v.d.length-2)=x at hx ⊢
 exact⟨⟨_,func368,rfl,rfl⟩,nH 299 [] v x _ (by simp) (fun H=>⟨⟨_,func299,rfl,rfl⟩,aD6 v x hv.mem hx H⟩) H i hi⟩
theorem an0(v:VVm)(x:List Int):bM v 85 [43,33] x=du v (rO v x):=by kernel_rfl
theorem au2(v:VVm)(hv:dA v):ab prog 166 [eVm v,i64 85] (tVm (doS v 85)):=by
 have hk:bi 85 (ao.getD (85:Int).toNat [])=2:=by kernel_rfl
 have hn:ao.getD (85:Int).toNat []=[43,33]:=by kernel_rfl
 rw[aH (by decide) (by decide),hk,hn,an0]
 refine aW v 85 2 368 [.row [fnP 301 []]] _ (by decide) (by decide) (by have:=hv.d;omega) hv.data (by decide) (by simp) (by rw[hn];exact jM 85 _ _ _ _ (by decide) (by simp) rfl rfl) (by(show List.length _<=_;simp[bY,bF,du,eJ,fJ,fZ,fL,bW,bA,be,dj,pUM,pM,dh,dk,di,pSD,bz,bJ])) (fun hk H i hi=>?_)
 have hx:=hv.x hk
 generalize v.d.drop (v.d.length-2)=x at hx ⊢
 exact⟨⟨_,func368,rfl,rfl⟩,nH 301 [] v x _ (by simp) (fun H=>⟨⟨_,func301,rfl,rfl⟩,aA2 v x hv.mem hx H⟩) H i hi⟩
theorem at3(v:VVm)(x:List Int):bM v 88 [50,64] x=kM v x:=by kernel_rfl
theorem aw1(v:VVm)(hv:dA v):ab prog 166 [eVm v,i64 88] (tVm (doS v 88)):=by
 have hk:bi 88 (ao.getD (88:Int).toNat [])=1:=by kernel_rfl
 have hn:ao.getD (88:Int).toNat []=[50,64]:=by kernel_rfl
 rw[aH (by decide) (by decide),hk,hn,at3]
 refine aW v 88 1 302 [] _ (by decide) (by decide) (by have:=hv.d;omega) hv.data (by decide) (by simp) (by rw[hn];exact jM 88 _ _ _ _ (by decide) (by simp) rfl rfl) (by unfold kM;split<;>simp) (fun hk H i hi=>?_)
 have hx:=hv.x hk
 generalize v.d.drop (v.d.length-1)=x at hx ⊢
 exact⟨⟨_,func302,rfl,rfl⟩,aC9 v x hv.mem hx H i hi⟩
theorem al3(v:VVm)(x:List Int):bM v 89 [50,33] x=du v (oG v x):=by kernel_rfl
theorem aw8(v:VVm)(hv:dA v):ab prog 166 [eVm v,i64 89] (tVm (doS v 89)):=by
 have hk:bi 89 (ao.getD (89:Int).toNat [])=3:=by kernel_rfl
 have hn:ao.getD (89:Int).toNat []=[50,33]:=by kernel_rfl
 rw[aH (by decide) (by decide),hk,hn,al3]
 refine aW v 89 3 368 [.row [fnP 303 []]] _ (by decide) (by decide) (by have:=hv.d;omega) hv.data (by decide) (by simp) (by rw[hn];exact jM 89 _ _ _ _ (by decide) (by simp) rfl rfl) (by(show List.length _<=_;simp[bY,bF,du,eJ,fJ,fZ,fL,bW,bA,be,dj,pUM,pM,dh,dk,di,pSD,bz,bJ])) (fun hk H i hi=>?_)
 have hx:=hv.x hk
 generalize v.d.drop (v.d.length-3)=x at hx ⊢
 exact⟨⟨_,func368,rfl,rfl⟩,nH 303 [] v x _ (by simp) (fun H=>⟨⟨_,func303,rfl,rfl⟩,ay4 v x hv.mem hv.old hx H⟩) H i hi⟩
theorem ao0(v:VVm)(x:List Int):bM v 90 [70,73,76,76] x=du v (m5 v.mem (xat x 0) (xat x 1) (xat x 2)):=by kernel_rfl
theorem ar9(v:VVm)(hv:dA v):ab prog 166 [eVm v,i64 90] (tVm (doS v 90)):=by
 have hk:bi 90 (ao.getD (90:Int).toNat [])=3:=by kernel_rfl
 have hn:ao.getD (90:Int).toNat []=[70,73,76,76]:=by kernel_rfl
 rw[aH (by decide) (by decide),hk,hn,ao0]
 refine aW v 90 3 368 [.row [fnP 304 []]] _ (by decide) (by decide) (by have:=hv.d;omega) hv.data (by decide) (by simp) (by rw[hn];exact jM 90 _ _ _ _ (by decide) (by simp) rfl rfl) (by(show List.length _<=_;simp[bY,bF,du,eJ,fJ,fZ,fL,bW,bA,be,dj,pUM,pM,dh,dk,di,pSD,bz,bJ])) (fun hk H i hi=>?_)
 have hx:=hv.x hk
 generalize v.d.drop (v.d.length-3)=x at hx ⊢
 exact⟨⟨_,func368,rfl,rfl⟩,nH 304 [] v x _ (by simp) (fun H=>⟨⟨_,func304,rfl,rfl⟩,ay9 v x hv.mem hx H⟩) H i hi⟩
theorem an9(v:VVm)(x:List Int):bM v 91 [77,79,86,69] x=du v (m4 v.mem (xat x 0) (xat x 1) (xat x 2)):=by kernel_rfl
theorem al4(v:VVm)(hv:dA v):ab prog 166 [eVm v,i64 91] (tVm (doS v 91)):=by
 have hk:bi 91 (ao.getD (91:Int).toNat [])=3:=by kernel_rfl
 have hn:ao.getD (91:Int).toNat []=[77,79,86,69]:=by kernel_rfl
 rw[aH (by decide) (by decide),hk,hn,an9]
 refine aW v 91 3 368 [.row [fnP 306 []]] _ (by decide) (by decide) (by have:=hv.d;omega) hv.data (by decide) (by simp) (by rw[hn];exact jM 91 _ _ _ _ (by decide) (by simp) rfl rfl) (by(show List.length _<=_;simp[bY,bF,du,eJ,fJ,fZ,fL,bW,bA,be,dj,pUM,pM,dh,dk,di,pSD,bz,bJ])) (fun hk H i hi=>?_)
 have hx:=hv.x hk
 generalize v.d.drop (v.d.length-3)=x at hx ⊢
 exact⟨⟨_,func368,rfl,rfl⟩,nH 306 [] v x _ (by simp) (fun H=>⟨⟨_,func306,rfl,rfl⟩,ay8 v x hv.mem hx H⟩) H i hi⟩
theorem ak4(v:VVm)(x:List Int):bM v 92 [67,79,85,78,84] x=bW v x:=by kernel_rfl
theorem ak0(v:VVm)(hv:dA v):ab prog 166 [eVm v,i64 92] (tVm (doS v 92)):=by
 have hk:bi 92 (ao.getD (92:Int).toNat [])=1:=by kernel_rfl
 have hn:ao.getD (92:Int).toNat []=[67,79,85,78,84]:=by kernel_rfl
 rw[aH (by decide) (by decide),hk,hn,ak4]
 refine aW v 92 1 308 [] _ (by decide) (by decide) (by have:=hv.d;omega) hv.data (by decide) (by simp) (by rw[hn];exact jM 92 _ _ _ _ (by decide) (by simp) rfl rfl) (by(show List.length _<=_;simp[bY,bF,du,eJ,fJ,fZ,fL,bW,bA,be,dj,pUM,pM,dh,dk,di,pSD,bz,bJ])) (fun hk H i hi=>?_)
 have hx:=hv.x hk
 generalize v.d.drop (v.d.length-1)=x at hx ⊢
 exact⟨⟨_,func308,rfl,rfl⟩,aA6 v x hv.mem hx H i hi⟩
theorem ao3(v:VVm)(x:List Int):bM v 93 [72,69,82,69] x=(v,[v.here],0):=by kernel_rfl
theorem ax2(v:VVm)(hv:dA v):ab prog 166 [eVm v,i64 93] (tVm (doS v 93)):=by
 have hk:bi 93 (ao.getD (93:Int).toNat [])=0:=by kernel_rfl
 have hn:ao.getD (93:Int).toNat []=[72,69,82,69]:=by kernel_rfl
 rw[aH (by decide) (by decide),hk,hn,ao3]
 refine aW v 93 0 370 [.row [fnP 315 []]] _ (by decide) (by decide) (by have:=hv.d;omega) hv.data (by decide) (by simp) (by rw[hn];exact ir 93 _ _ _ _ (by decide) (by simp) rfl rfl rfl) (by(show List.length _<=_;simp[bY,bF,du,eJ,fJ,fZ,fL,bW,bA,be,dj,pUM,pM,dh,dk,di,pSD,bz,bJ])) (fun hk H i hi=>?_)
 have hx:=hv.x hk
 generalize v.d.drop (v.d.length-0)=x at hx ⊢
 exact⟨⟨_,func370,rfl,rfl⟩,nj 315 [] v x _ (by simp) (fun H=>⟨⟨_,func315,rfl,rfl⟩,aD5 v H⟩) H i hi⟩
theorem ar7(v:VVm)(x:List Int):bM v 94 [65,76,76,79,84] x=eJ v (ui v x):=by kernel_rfl
theorem au8(v:VVm)(hv:dA v):ab prog 166 [eVm v,i64 94] (tVm (doS v 94)):=by
 have hk:bi 94 (ao.getD (94:Int).toNat [])=1:=by kernel_rfl
 have hn:ao.getD (94:Int).toNat []=[65,76,76,79,84]:=by kernel_rfl
 rw[aH (by decide) (by decide),hk,hn,ar7]
 refine aW v 94 1 371 [.row [fnP 317 []]] _ (by decide) (by decide) (by have:=hv.d;omega) hv.data (by decide) (by simp) (by rw[hn];exact ir 94 _ _ _ _ (by decide) (by simp) rfl rfl rfl) (by(show List.length _<=_;simp[bY,bF,du,eJ,fJ,fZ,fL,bW,bA,be,dj,pUM,pM,dh,dk,di,pSD,bz,bJ])) (fun hk H i hi=>?_)
 have hx:=hv.x hk
 generalize v.d.drop (v.d.length-1)=x at hx ⊢
 exact⟨⟨_,func371,rfl,rfl⟩,EK 317 [] v x _ (by simp) (fun H=>⟨⟨_,func317,rfl,rfl⟩,az9 v x hv.mem hv.here hx H⟩) H i hi⟩
theorem ar5(v:VVm)(x:List Int):bM v 95 [44] x=eJ v (cv v.mem v.here (xat x 0)):=by kernel_rfl
theorem at1(v:VVm)(hv:dA v):ab prog 166 [eVm v,i64 95] (tVm (doS v 95)):=by
 have hk:bi 95 (ao.getD (95:Int).toNat [])=1:=by kernel_rfl
 have hn:ao.getD (95:Int).toNat []=[44]:=by kernel_rfl
 rw[aH (by decide) (by decide),hk,hn,ar5]
 refine aW v 95 1 371 [.row [fnP 319 []]] _ (by decide) (by decide) (by have:=hv.d;omega) hv.data (by decide) (by simp) (by rw[hn];exact ir 95 _ _ _ _ (by decide) (by simp) rfl rfl rfl) (by(show List.length _<=_;simp[bY,bF,du,eJ,fJ,fZ,fL,bW,bA,be,dj,pUM,pM,dh,dk,di,pSD,bz,bJ])) (fun hk H i hi=>?_)
 have hx:=hv.x hk
 generalize v.d.drop (v.d.length-1)=x at hx ⊢
 exact⟨⟨_,func371,rfl,rfl⟩,EK 319 [] v x _ (by simp) (fun H=>⟨⟨_,func319,rfl,rfl⟩,aB8 v x hv.mem hv.here hx H⟩) H i hi⟩
theorem ap7(v:VVm)(x:List Int):bM v 96 [67,44] x=eJ v (da v.mem v.here [loB (xat x 0)]):=by kernel_rfl
theorem aq0(v:VVm)(hv:dA v):ab prog 166 [eVm v,i64 96] (tVm (doS v 96)):=by
 have hk:bi 96 (ao.getD (96:Int).toNat [])=1:=by kernel_rfl
 have hn:ao.getD (96:Int).toNat []=[67,44]:=by kernel_rfl
 rw[aH (by decide) (by decide),hk,hn,ap7]
 refine aW v 96 1 371 [.row [fnP 320 []]] _ (by decide) (by decide) (by have:=hv.d;omega) hv.data (by decide) (by simp) (by rw[hn];exact ir 96 _ _ _ _ (by decide) (by simp) rfl rfl rfl) (by(show List.length _<=_;simp[bY,bF,du,eJ,fJ,fZ,fL,bW,bA,be,dj,pUM,pM,dh,dk,di,pSD,bz,bJ])) (fun hk H i hi=>?_)
 have hx:=hv.x hk
 generalize v.d.drop (v.d.length-1)=x at hx ⊢
 exact⟨⟨_,func371,rfl,rfl⟩,EK 320 [] v x _ (by simp) (fun H=>⟨⟨_,func320,rfl,rfl⟩,aD8 v x hv.mem hv.here hx H⟩) H i hi⟩
theorem ao9(v:VVm)(x:List Int):bM v 97 [65,76,73,71,78] x=eJ v (aM v.mem v.here):=by kernel_rfl
theorem au3(v:VVm)(hv:dA v):ab prog 166 [eVm v,i64 97] (tVm (doS v 97)):=by
 have hk:bi 97 (ao.getD (97:Int).toNat [])=0:=by kernel_rfl
 have hn:ao.getD (97:Int).toNat []=[65,76,73,71,78]:=by kernel_rfl
 rw[aH (by decide) (by decide),hk,hn,ao9]
 refine aW v 97 0 371 [.row [fnP 321 []]] _ (by decide) (by decide) (by have:=hv.d;omega) hv.data (by decide) (by simp) (by rw[hn];exact ir 97 _ _ _ _ (by decide) (by simp) rfl rfl rfl) (by(show List.length _<=_;simp[bY,bF,du,eJ,fJ,fZ,fL,bW,bA,be,dj,pUM,pM,dh,dk,di,pSD,bz,bJ])) (fun hk H i hi=>?_)
 have hx:=hv.x hk
 generalize v.d.drop (v.d.length-0)=x at hx ⊢
 exact⟨⟨_,func371,rfl,rfl⟩,EK 321 [] v x _ (by simp) (fun H=>⟨⟨_,func321,rfl,rfl⟩,aB1 v x hv.mem hv.here H⟩) H i hi⟩
theorem aq5(v:VVm)(x:List Int):bM v 98 [66,65,83,69] x=(v,[0],0):=by kernel_rfl
theorem as4(v:VVm)(hv:dA v):ab prog 166 [eVm v,i64 98] (tVm (doS v 98)):=by
 have hk:bi 98 (ao.getD (98:Int).toNat [])=0:=by kernel_rfl
 have hn:ao.getD (98:Int).toNat []=[66,65,83,69]:=by kernel_rfl
 rw[aH (by decide) (by decide),hk,hn,aq5]
 refine aW v 98 0 370 [.row [fnP 314 [.row [i64 (0)]]]] _ (by decide) (by decide) (by have:=hv.d;omega) hv.data (by decide) (by simp) (by rw[hn];exact ir 98 _ _ _ _ (by decide) (by simp) rfl rfl rfl) (by(show List.length _<=_;simp[bY,bF,du,eJ,fJ,fZ,fL,bW,bA,be,dj,pUM,pM,dh,dk,di,pSD,bz,bJ])) (fun hk H i hi=>?_)
 have hx:=hv.x hk
 generalize v.d.drop (v.d.length-0)=x at hx ⊢
 exact⟨⟨_,func370,rfl,rfl⟩,nj 314 [.row [i64 (0)]] v x (0) (by simp) (fun H=>⟨⟨_,func314,rfl,rfl⟩,sr v (0) H⟩) H i hi⟩
theorem an2(v:VVm)(x:List Int):bM v 99 [83,84,65,84,69] x=(v,[8],0):=by kernel_rfl
theorem ao1(v:VVm)(hv:dA v):ab prog 166 [eVm v,i64 99] (tVm (doS v 99)):=by
 have hk:bi 99 (ao.getD (99:Int).toNat [])=0:=by kernel_rfl
 have hn:ao.getD (99:Int).toNat []=[83,84,65,84,69]:=by kernel_rfl
 rw[aH (by decide) (by decide),hk,hn,an2]
 refine aW v 99 0 370 [.row [fnP 314 [.row [i64 (8)]]]] _ (by decide) (by decide) (by have:=hv.d;omega) hv.data (by decide) (by simp) (by rw[hn];exact ir 99 _ _ _ _ (by decide) (by simp) rfl rfl rfl) (by(show List.length _<=_;simp[bY,bF,du,eJ,fJ,fZ,fL,bW,bA,be,dj,pUM,pM,dh,dk,di,pSD,bz,bJ])) (fun hk H i hi=>?_)
 have hx:=hv.x hk
 generalize v.d.drop (v.d.length-0)=x at hx ⊢
 exact⟨⟨_,func370,rfl,rfl⟩,nj 314 [.row [i64 (8)]] v x (8) (by simp) (fun H=>⟨⟨_,func314,rfl,rfl⟩,sr v (8) H⟩) H i hi⟩
theorem Y5(v:VVm)(x:List Int):bM v 100 [84,82,85,69] x=(v,[-1],0):=by kernel_rfl
theorem ZR(v:VVm)(hv:dA v):ab prog 166 [eVm v,i64 100] (tVm (doS v 100)):=by
 have hk:bi 100 (ao.getD (100:Int).toNat [])=0:=by kernel_rfl
 have hn:ao.getD (100:Int).toNat []=[84,82,85,69]:=by kernel_rfl
 rw[aH (by decide) (by decide),hk,hn,Y5]
 refine aW v 100 0 370 [.row [fnP 314 [.row [i64 (-1)]]]] _ (by decide) (by decide) (by have:=hv.d;omega) hv.data (by decide) (by simp) (by rw[hn];exact ir 100 _ _ _ _ (by decide) (by simp) rfl rfl rfl) (by(show List.length _<=_;simp[bY,bF,du,eJ,fJ,fZ,fL,bW,bA,be,dj,pUM,pM,dh,dk,di,pSD,bz,bJ])) (fun hk H i hi=>?_)
 have hx:=hv.x hk
 generalize v.d.drop (v.d.length-0)=x at hx ⊢
 exact⟨⟨_,func370,rfl,rfl⟩,nj 314 [.row [i64 (-1)]] v x (-1) (by simp) (fun H=>⟨⟨_,func314,rfl,rfl⟩,sr v (-1) H⟩) H i hi⟩
theorem YA(v:VVm)(x:List Int):bM v 101 [70,65,76,83,69] x=(v,[0],0):=by kernel_rfl
theorem ae4(v:VVm)(hv:dA v):ab prog 166 [eVm v,i64 101] (tVm (doS v 101)):=by
 have hk:bi 101 (ao.getD (101:Int).toNat [])=0:=by kernel_rfl
 have hn:ao.getD (101:Int).toNat []=[70,65,76,83,69]:=by kernel_rfl
 rw[aH (by decide) (by decide),hk,hn,YA]
 refine aW v 101 0 370 [.row [fnP 314 [.row [i64 (0)]]]] _ (by decide) (by decide) (by have:=hv.d;omega) hv.data (by decide) (by simp) (by rw[hn];exact ir 101 _ _ _ _ (by decide) (by simp) rfl rfl rfl) (by(show List.length _<=_;simp[bY,bF,du,eJ,fJ,fZ,fL,bW,bA,be,dj,pUM,pM,dh,dk,di,pSD,bz,bJ])) (fun hk H i hi=>?_)
 have hx:=hv.x hk
 generalize v.d.drop (v.d.length-0)=x at hx ⊢
 exact⟨⟨_,func370,rfl,rfl⟩,nj 314 [.row [i64 (0)]] v x (0) (by simp) (fun H=>⟨⟨_,func314,rfl,rfl⟩,sr v (0) H⟩) H i hi⟩
theorem ae1(v:VVm)(x:List Int):bM v 102 [66,76] x=(v,[32],0):=by kernel_rfl
theorem Zo(v:VVm)(hv:dA v):ab prog 166 [eVm v,i64 102] (tVm (doS v 102)):=by
 have hk:bi 102 (ao.getD (102:Int).toNat [])=0:=by kernel_rfl
 have hn:ao.getD (102:Int).toNat []=[66,76]:=by kernel_rfl
 rw[aH (by decide) (by decide),hk,hn,ae1]
 refine aW v 102 0 370 [.row [fnP 314 [.row [i64 (32)]]]] _ (by decide) (by decide) (by have:=hv.d;omega) hv.data (by decide) (by simp) (by rw[hn];exact ir 102 _ _ _ _ (by decide) (by simp) rfl rfl rfl) (by(show List.length _<=_;simp[bY,bF,du,eJ,fJ,fZ,fL,bW,bA,be,dj,pUM,pM,dh,dk,di,pSD,bz,bJ])) (fun hk H i hi=>?_)
 have hx:=hv.x hk
 generalize v.d.drop (v.d.length-0)=x at hx ⊢
 exact⟨⟨_,func370,rfl,rfl⟩,nj 314 [.row [i64 (32)]] v x (32) (by simp) (fun H=>⟨⟨_,func314,rfl,rfl⟩,sr v (32) H⟩) H i hi⟩
theorem ad9(v:VVm)(x:List Int):bM v 103 [68,69,67,73,77,65,76] x=du v (aF v.mem 0 10):=by kernel_rfl
theorem ab4(v:VVm)(hv:dA v):ab prog 166 [eVm v,i64 103] (tVm (doS v 103)):=by
 have hk:bi 103 (ao.getD (103:Int).toNat [])=0:=by kernel_rfl
 have hn:ao.getD (103:Int).toNat []=[68,69,67,73,77,65,76]:=by kernel_rfl
 rw[aH (by decide) (by decide),hk,hn,ad9]
 refine aW v 103 0 310 [.row [i64 10]] _ (by decide) (by decide) (by have:=hv.d;omega) hv.data (by decide) (by simp) (by rw[hn];exact ir 103 _ _ _ _ (by decide) (by simp) rfl rfl rfl) (by(show List.length _<=_;simp[bY,bF,du,eJ,fJ,fZ,fL,bW,bA,be,dj,pUM,pM,dh,dk,di,pSD,bz,bJ])) (fun hk H i hi=>?_)
 have hx:=hv.x hk
 generalize v.d.drop (v.d.length-0)=x at hx ⊢
 exact⟨⟨_,func310,rfl,rfl⟩,Sr v x 10 hv.mem H i hi⟩
theorem ae9(v:VVm)(x:List Int):bM v 104 [72,69,88] x=du v (aF v.mem 0 16):=by kernel_rfl
theorem ad5(v:VVm)(hv:dA v):ab prog 166 [eVm v,i64 104] (tVm (doS v 104)):=by
 have hk:bi 104 (ao.getD (104:Int).toNat [])=0:=by kernel_rfl
 have hn:ao.getD (104:Int).toNat []=[72,69,88]:=by kernel_rfl
 rw[aH (by decide) (by decide),hk,hn,ae9]
 refine aW v 104 0 310 [.row [i64 16]] _ (by decide) (by decide) (by have:=hv.d;omega) hv.data (by decide) (by simp) (by rw[hn];exact ir 104 _ _ _ _ (by decide) (by simp) rfl rfl rfl) (by(show List.length _<=_;simp[bY,bF,du,eJ,fJ,fZ,fL,bW,bA,be,dj,pUM,pM,dh,dk,di,pSD,bz,bJ])) (fun hk H i hi=>?_)
 have hx:=hv.x hk
 generalize v.d.drop (v.d.length-0)=x at hx ⊢
 exact⟨⟨_,func310,rfl,rfl⟩,Sr v x 16 hv.mem H i hi⟩
theorem YR(v:VVm)(x:List Int):bM v 105 [69,77,73,84] x=dy v ([loB (xat x 0)],0):=by kernel_rfl
theorem ZM(v:VVm)(hv:dA v):ab prog 166 [eVm v,i64 105] (tVm (doS v 105)):=by
 have hk:bi 105 (ao.getD (105:Int).toNat [])=1:=by kernel_rfl
 have hn:ao.getD (105:Int).toNat []=[69,77,73,84]:=by kernel_rfl
 rw[aH (by decide) (by decide),hk,hn,YR]
 refine aW v 105 1 372 [.row [fnP 328 []]] _ (by decide) (by decide) (by have:=hv.d;omega) hv.data (by decide) (by simp) (by rw[hn];exact nK 105 _ _ _ _ (by decide) (by simp) rfl rfl rfl rfl) (by unfold dy;split<;>simp) (fun hk H i hi=>?_)
 have hx:=hv.x hk
 generalize v.d.drop (v.d.length-1)=x at hx ⊢
 exact⟨⟨_,func372,rfl,rfl⟩,uL 328 [] v x ([loB (xat x 0)],0) hv.out1 hv.out (by simp) (by simp) (fun H=>⟨⟨_,func328,rfl,rfl⟩,aA9 v x hx H⟩) H i hi⟩
theorem Z9(v:VVm)(x:List Int):bM v 106 [67,82] x=dy v ([10],0):=by kernel_rfl
theorem YB(v:VVm)(hv:dA v):ab prog 166 [eVm v,i64 106] (tVm (doS v 106)):=by
 have hk:bi 106 (ao.getD (106:Int).toNat [])=0:=by kernel_rfl
 have hn:ao.getD (106:Int).toNat []=[67,82]:=by kernel_rfl
 rw[aH (by decide) (by decide),hk,hn,Z9]
 refine aW v 106 0 372 [.row [fnP 327 [.row [str [10]]]]] _ (by decide) (by decide) (by have:=hv.d;omega) hv.data (by decide) (by simp) (by rw[hn];exact nK 106 _ _ _ _ (by decide) (by simp) rfl rfl rfl rfl) (by unfold dy;split<;>simp) (fun hk H i hi=>?_)
 have hx:=hv.x hk
 generalize v.d.drop (v.d.length-0)=x at hx ⊢
 exact⟨⟨_,func372,rfl,rfl⟩,uL 327 [.row [str [10]]] v x ([10],0) hv.out1 hv.out (by simp) (by simp) (fun H=>⟨⟨_,func327,rfl,rfl⟩,PL [10] v x H⟩) H i hi⟩
theorem ZZ(v:VVm)(x:List Int):bM v 107 [83,80,65,67,69] x=dy v ([32],0):=by kernel_rfl
theorem Zb(v:VVm)(hv:dA v):ab prog 166 [eVm v,i64 107] (tVm (doS v 107)):=by
 have hk:bi 107 (ao.getD (107:Int).toNat [])=0:=by kernel_rfl
 have hn:ao.getD (107:Int).toNat []=[83,80,65,67,69]:=by kernel_rfl
 rw[aH (by decide) (by decide),hk,hn,ZZ]
 refine aW v 107 0 372 [.row [fnP 327 [.row [str [32]]]]] _ (by decide) (by decide) (by have:=hv.d;omega) hv.data (by decide) (by simp) (by rw[hn];exact nK 107 _ _ _ _ (by decide) (by simp) rfl rfl rfl rfl) (by unfold dy;split<;>simp) (fun hk H i hi=>?_)
 have hx:=hv.x hk
 generalize v.d.drop (v.d.length-0)=x at hx ⊢
 exact⟨⟨_,func372,rfl,rfl⟩,uL 327 [.row [str [32]]] v x ([32],0) hv.out1 hv.out (by simp) (by simp) (fun H=>⟨⟨_,func327,rfl,rfl⟩,PL [32] v x H⟩) H i hi⟩
theorem ZI(v:VVm)(x:List Int):bM v 108 [83,80,65,67,69,83] x=dy v (vL v x,0):=by kernel_rfl
theorem ZX(v:VVm)(hv:dA v):ab prog 166 [eVm v,i64 108] (tVm (doS v 108)):=by
 have hk:bi 108 (ao.getD (108:Int).toNat [])=1:=by kernel_rfl
 have hn:ao.getD (108:Int).toNat []=[83,80,65,67,69,83]:=by kernel_rfl
 rw[aH (by decide) (by decide),hk,hn,ZI]
 refine aW v 108 1 372 [.row [fnP 329 []]] _ (by decide) (by decide) (by have:=hv.d;omega) hv.data (by decide) (by simp) (by rw[hn];exact nK 108 _ _ _ _ (by decide) (by simp) rfl rfl rfl rfl) (by unfold dy;split<;>simp) (fun hk H i hi=>?_)
 have hx:=hv.x hk
 generalize v.d.drop (v.d.length-1)=x at hx ⊢
 exact⟨⟨_,func372,rfl,rfl⟩,uL 329 [] v x (vL v x,0) hv.out1 hv.out (by have:=hv.out2;simp only[vL,List.length_replicate];omega) (by simp) (fun H=>⟨⟨_,func329,rfl,rfl⟩,az7 v x hv.out2 hx H⟩) H i hi⟩
theorem Zd(v:VVm)(x:List Int):bM v 109 [84,89,80,69] x=dy v (dN v.mem (xat x 0) (xat x 1)):=by kernel_rfl
theorem Yz(v:VVm)(hv:dA v):ab prog 166 [eVm v,i64 109] (tVm (doS v 109)):=by
 have hk:bi 109 (ao.getD (109:Int).toNat [])=2:=by kernel_rfl
 have hn:ao.getD (109:Int).toNat []=[84,89,80,69]:=by kernel_rfl
 rw[aH (by decide) (by decide),hk,hn,Zd]
 refine aW v 109 2 372 [.row [fnP 331 []]] _ (by decide) (by decide) (by have:=hv.d;omega) hv.data (by decide) (by simp) (by rw[hn];exact nK 109 _ _ _ _ (by decide) (by simp) rfl rfl rfl rfl) (by unfold dy;split<;>simp) (fun hk H i hi=>?_)
 have hx:=hv.x hk
 generalize v.d.drop (v.d.length-2)=x at hx ⊢
 exact⟨⟨_,func372,rfl,rfl⟩,uL 331 [] v x (dN v.mem (xat x 0) (xat x 1)) hv.out1 hv.out (by have:=EP v.mem (xat x 0) (xat x 1);have:=hv.mem.b;omega) (by simp) (fun H=>⟨⟨_,func331,rfl,rfl⟩,aA5 v x hv.mem hx H⟩) H i hi⟩
theorem YO(v:VVm)(x:List Int):bM v 110 [46] x=dy v (rJ (iU (xat x 0) (j7 v))):=by kernel_rfl
theorem ah0(v:VVm)(hv:dA v):ab prog 166 [eVm v,i64 110] (tVm (doS v 110)):=by
 have hk:bi 110 (ao.getD (110:Int).toNat [])=1:=by kernel_rfl
 have hn:ao.getD (110:Int).toNat []=[46]:=by kernel_rfl
 rw[aH (by decide) (by decide),hk,hn,YO]
 refine aW v 110 1 372 [.row [fnP 324 [.row [fnP 332 []]]]] _ (by decide) (by decide) (by have:=hv.d;omega) hv.data (by decide) (by simp) (by rw[hn];exact nK 110 _ _ _ _ (by decide) (by simp) rfl rfl rfl rfl) (by unfold dy;split<;>simp) (fun hk H i hi=>?_)
 have hx:=hv.x hk
 generalize v.d.drop (v.d.length-1)=x at hx ⊢
 exact⟨⟨_,func372,rfl,rfl⟩,uL 324 [.row [fnP 332 []]] v x (rJ (iU (xat x 0) (j7 v))) hv.out1 hv.out (by have:=BV (xat x 0) (j7 v);simp only[rJ,List.length_append,List.length_singleton];omega) (by simp) (fun H=>⟨⟨_,func324,rfl,rfl⟩,Fr 332 [] v x (iU (xat x 0) (j7 v)) hx.len (gj hv.mem) (by have:=BV (xat x 0) (j7 v);omega) (by simp) (fun H=>⟨⟨_,func332,rfl,rfl⟩,ZU _ _ (hx.fit 0) H⟩) H⟩) H i hi⟩
theorem ab2(v:VVm)(x:List Int):bM v 111 [85,46] x=dy v (rJ (gF (xat x 0) (j7 v))):=by kernel_rfl
theorem Za(v:VVm)(hv:dA v):ab prog 166 [eVm v,i64 111] (tVm (doS v 111)):=by
 have hk:bi 111 (ao.getD (111:Int).toNat [])=1:=by kernel_rfl
 have hn:ao.getD (111:Int).toNat []=[85,46]:=by kernel_rfl
 rw[aH (by decide) (by decide),hk,hn,ab2]
 refine aW v 111 1 372 [.row [fnP 324 [.row [fnP 333 []]]]] _ (by decide) (by decide) (by have:=hv.d;omega) hv.data (by decide) (by simp) (by rw[hn];exact nK 111 _ _ _ _ (by decide) (by simp) rfl rfl rfl rfl) (by unfold dy;split<;>simp) (fun hk H i hi=>?_)
 have hx:=hv.x hk
 generalize v.d.drop (v.d.length-1)=x at hx ⊢
 exact⟨⟨_,func372,rfl,rfl⟩,uL 324 [.row [fnP 333 []]] v x (rJ (gF (xat x 0) (j7 v))) hv.out1 hv.out (by have:=AI (xat x 0) (j7 v);simp only[rJ,List.length_append,List.length_singleton];omega) (by simp) (fun H=>⟨⟨_,func324,rfl,rfl⟩,Fr 333 [] v x (gF (xat x 0) (j7 v)) hx.len (gj hv.mem) (by have:=AI (xat x 0) (j7 v);omega) (by simp) (fun H=>⟨⟨_,func333,rfl,rfl⟩,Xh _ _ (hx.fit 0) H⟩) H⟩) H i hi⟩
theorem Zf(v:VVm)(x:List Int):bM v 112 [60,35] x=(tV v ⟨[],true⟩,[],0):=by kernel_rfl
theorem Zl(v:VVm)(hv:dA v):ab prog 166 [eVm v,i64 112] (tVm (doS v 112)):=by
 have hk:bi 112 (ao.getD (112:Int).toNat [])=0:=by kernel_rfl
 have hn:ao.getD (112:Int).toNat []=[60,35]:=by kernel_rfl
 rw[aH (by decide) (by decide),hk,hn,Zf]
 refine aW v 112 0 336 [] _ (by decide) (by decide) (by have:=hv.d;omega) hv.data (by decide) (by simp) (by rw[hn];exact pm 112 _ _ _ _ (by decide) (by simp) rfl rfl rfl rfl rfl) (by(show List.length _<=_;simp[bY,bF,du,eJ,fJ,fZ,fL,bW,bA,be,dj,pUM,pM,dh,dk,di,pSD,bz,bJ])) (fun hk H i hi=>?_)
 have hx:=hv.x hk
 generalize v.d.drop (v.d.length-0)=x at hx ⊢
 exact⟨⟨_,func336,rfl,rfl⟩,aC6 v x H i hi⟩
theorem ab3(v:VVm)(x:List Int):bM v 113 [35] x=fZ v x:=by kernel_rfl
theorem ac8(v:VVm)(hv:dA v):ab prog 166 [eVm v,i64 113] (tVm (doS v 113)):=by
 have hk:bi 113 (ao.getD (113:Int).toNat [])=2:=by kernel_rfl
 have hn:ao.getD (113:Int).toNat []=[35]:=by kernel_rfl
 rw[aH (by decide) (by decide),hk,hn,ab3]
 refine aW v 113 2 338 [] _ (by decide) (by decide) (by have:=hv.d;omega) hv.data (by decide) (by simp) (by rw[hn];exact pm 113 _ _ _ _ (by decide) (by simp) rfl rfl rfl rfl rfl) (by(show List.length _<=_;simp[bY,bF,du,eJ,fJ,fZ,fL,bW,bA,be,dj,pUM,pM,dh,dk,di,pSD,bz,bJ])) (fun hk H i hi=>?_)
 have hx:=hv.x hk
 generalize v.d.drop (v.d.length-2)=x at hx ⊢
 exact⟨⟨_,func338,rfl,rfl⟩,az6 v x hv.pic (gj hv.mem) hx H i hi⟩
theorem YK(v:VVm)(x:List Int):bM v 114 [35,83] x=fL v x:=by kernel_rfl
theorem Zs(v:VVm)(hv:dA v):ab prog 166 [eVm v,i64 114] (tVm (doS v 114)):=by
 have hk:bi 114 (ao.getD (114:Int).toNat [])=2:=by kernel_rfl
 have hn:ao.getD (114:Int).toNat []=[35,83]:=by kernel_rfl
 rw[aH (by decide) (by decide),hk,hn,YK]
 refine aW v 114 2 340 [] _ (by decide) (by decide) (by have:=hv.d;omega) hv.data (by decide) (by simp) (by rw[hn];exact pm 114 _ _ _ _ (by decide) (by simp) rfl rfl rfl rfl rfl) (by(show List.length _<=_;simp[bY,bF,du,eJ,fJ,fZ,fL,bW,bA,be,dj,pUM,pM,dh,dk,di,pSD,bz,bJ])) (fun hk H i hi=>?_)
 have hx:=hv.x hk
 generalize v.d.drop (v.d.length-2)=x at hx ⊢
 exact⟨⟨_,func340,rfl,rfl⟩,az3 v x hv.pic (gj hv.mem) hx H i hi⟩
theorem ab9(v:VVm)(x:List Int):bM v 115 [72,79,76,68] x=fJ v (gC v.pic (xat x 0)):=by kernel_rfl
theorem af5(v:VVm)(hv:dA v):ab prog 166 [eVm v,i64 115] (tVm (doS v 115)):=by
 have hk:bi 115 (ao.getD (115:Int).toNat [])=1:=by kernel_rfl
 have hn:ao.getD (115:Int).toNat []=[72,79,76,68]:=by kernel_rfl
 rw[aH (by decide) (by decide),hk,hn,ab9]
 refine aW v 115 1 335 [.row [fnP 342 []]] _ (by decide) (by decide) (by have:=hv.d;omega) hv.data (by decide) (by simp) (by rw[hn];exact pm 115 _ _ _ _ (by decide) (by simp) rfl rfl rfl rfl rfl) (by(show List.length _<=_;simp[bY,bF,du,eJ,fJ,fZ,fL,bW,bA,be,dj,pUM,pM,dh,dk,di,pSD,bz,bJ])) (fun hk H i hi=>?_)
 have hx:=hv.x hk
 generalize v.d.drop (v.d.length-1)=x at hx ⊢
 exact⟨⟨_,func335,rfl,rfl⟩,Yn 342 [] v x _ hx.len (by simp) (fun H=>⟨⟨_,func342,rfl,rfl⟩,AS v.pic _ hv.pic H⟩) H i hi⟩
theorem Y8(v:VVm)(x:List Int):bM v 116 [83,73,71,78] x=fJ v (oM v.pic (xat x 0)):=by kernel_rfl
theorem Z0(v:VVm)(hv:dA v):ab prog 166 [eVm v,i64 116] (tVm (doS v 116)):=by
 have hk:bi 116 (ao.getD (116:Int).toNat [])=1:=by kernel_rfl
 have hn:ao.getD (116:Int).toNat []=[83,73,71,78]:=by kernel_rfl
 rw[aH (by decide) (by decide),hk,hn,Y8]
 refine aW v 116 1 335 [.row [fnP 343 []]] _ (by decide) (by decide) (by have:=hv.d;omega) hv.data (by decide) (by simp) (by rw[hn];exact pm 116 _ _ _ _ (by decide) (by simp) rfl rfl rfl rfl rfl) (by(show List.length _<=_;simp[bY,bF,du,eJ,fJ,fZ,fL,bW,bA,be,dj,pUM,pM,dh,dk,di,pSD,bz,bJ])) (fun hk H i hi=>?_)
 have hx:=hv.x hk
 generalize v.d.drop (v.d.length-1)=x at hx ⊢
 exact⟨⟨_,func335,rfl,rfl⟩,Yn 343 [] v x _ hx.len (by simp) (fun H=>⟨⟨_,func343,rfl,rfl⟩,R5 v.pic _ hv.pic H⟩) H i hi⟩
theorem Y2(v:VVm)(x:List Int):bM v 117 [35,62] x=xv v:=by kernel_rfl
theorem aa4(v:VVm)(hv:dA v):ab prog 166 [eVm v,i64 117] (tVm (doS v 117)):=by
 have hk:bi 117 (ao.getD (117:Int).toNat [])=2:=by kernel_rfl
 have hn:ao.getD (117:Int).toNat []=[35,62]:=by kernel_rfl
 rw[aH (by decide) (by decide),hk,hn,Y2]
 refine aW v 117 2 344 [] _ (by decide) (by decide) (by have:=hv.d;omega) hv.data (by decide) (by simp) (by rw[hn];exact pm 117 _ _ _ _ (by decide) (by simp) rfl rfl rfl rfl rfl) (by unfold xv;split<;>simp) (fun hk H i hi=>?_)
 have hx:=hv.x hk
 generalize v.d.drop (v.d.length-2)=x at hx ⊢
 exact⟨⟨_,func344,rfl,rfl⟩,az8 v x hv.pic hv.mem H i hi⟩
theorem ag1(v:VVm)(x:List Int):bM v 118 [62,66,79,68,89] x=vJ v x:=by kernel_rfl
theorem Y3(v:VVm)(hv:dA v):ab prog 166 [eVm v,i64 118] (tVm (doS v 118)):=by
 have hk:bi 118 (ao.getD (118:Int).toNat [])=1:=by kernel_rfl
 have hn:ao.getD (118:Int).toNat []=[62,66,79,68,89]:=by kernel_rfl
 rw[aH (by decide) (by decide),hk,hn,ag1]
 rw[<-Mj (r':=(v,bJ v (v.d.drop (v.d.length-1)))) (NO v _) (UN v _)]
 refine aW v 118 1 346 [] _ (by decide) (by decide) (by have:=hv.d;omega) hv.data (by decide) (by simp) (by rw[hn];exact iA 118 _ _ _ _ (by decide) (by simp) rfl rfl rfl rfl rfl rfl) (by(show List.length _<=_;simp[bY,bF,du,eJ,fJ,fZ,fL,bW,bA,be,dj,pUM,pM,dh,dk,di,pSD,bz,bJ])) (fun hk H i hi=>?_)
 have hx:=hv.x hk
 generalize v.d.drop (v.d.length-1)=x at hx ⊢
 exact⟨⟨_,func346,rfl,rfl⟩,aD0 v x (gj hv.mem) hx H i hi⟩
theorem YN(v:VVm)(x:List Int):bM v 119 [65,66,79,82,84] x=(v,[],-1):=by kernel_rfl
theorem af6(v:VVm)(hv:dA v):ab prog 166 [eVm v,i64 119] (tVm (doS v 119)):=by
 have hk:bi 119 (ao.getD (119:Int).toNat [])=0:=by kernel_rfl
 have hn:ao.getD (119:Int).toNat []=[65,66,79,82,84]:=by kernel_rfl
 rw[aH (by decide) (by decide),hk,hn,YN]
 refine aW v 119 0 271 [.row [fnP 347 []]] _ (by decide) (by decide) (by have:=hv.d;omega) hv.data (by decide) (by simp) (by rw[hn];exact iA 119 _ _ _ _ (by decide) (by simp) rfl rfl rfl rfl rfl rfl) (by(show List.length _<=_;simp[bY,bF,du,eJ,fJ,fZ,fL,bW,bA,be,dj,pUM,pM,dh,dk,di,pSD,bz,bJ])) (fun hk H i hi=>?_)
 have hx:=hv.x hk
 generalize v.d.drop (v.d.length-0)=x at hx ⊢
 exact⟨⟨_,func271,rfl,rfl⟩,lw 347 [] v x (v,[],-1).2 (by simp) (fun H=>⟨⟨_,func347,rfl,rfl⟩,aB2 x H⟩) H i hi⟩
theorem ZD(v:VVm)(x:List Int):bM v 120 [80,79,83,84] x=jO v x:=by kernel_rfl
theorem ag7(v:VVm)(hv:dA v):ab prog 166 [eVm v,i64 120] (tVm (doS v 120)):=by
 have hk:bi 120 (ao.getD (120:Int).toNat [])=3:=by kernel_rfl
 have hn:ao.getD (120:Int).toNat []=[80,79,83,84]:=by kernel_rfl
 rw[aH (by decide) (by decide),hk,hn,ZD]
 refine aW v 120 3 383 [.row [i64 1],.row [i64 3]] _ (by decide) (by decide) (by have:=hv.d;omega) hv.data (by decide) (by simp) (by rw[hn];exact iA 120 _ _ _ _ (by decide) (by simp) rfl rfl rfl rfl rfl rfl) (by unfold jO;split;simp;split<;>simp) (fun hk H i hi=>?_)
 have hx:=hv.x hk
 generalize v.d.drop (v.d.length-3)=x at hx ⊢
 exact⟨⟨_,func383,rfl,rfl⟩,ZK v x hv.req hv.hand hx H i hi⟩
theorem af8(v:VVm)(x:List Int):bM v 121 [65,70,84,69,82] x=dw 2 v x:=by kernel_rfl
theorem Zu(v:VVm)(hv:dA v):ab prog 166 [eVm v,i64 121] (tVm (doS v 121)):=by
 have hk:bi 121 (ao.getD (121:Int).toNat [])=4:=by kernel_rfl
 have hn:ao.getD (121:Int).toNat []=[65,70,84,69,82]:=by kernel_rfl
 rw[aH (by decide) (by decide),hk,hn,af8]
 refine aW v 121 4 383 [.row [i64 2],.row [i64 4]] _ (by decide) (by decide) (by have:=hv.d;omega) hv.data (by decide) (by simp) (by rw[hn];exact iA 121 _ _ _ _ (by decide) (by simp) rfl rfl rfl rfl rfl rfl) (by unfold dw;split;simp;split;simp;split;simp;split<;>simp) (fun hk H i hi=>?_)
 have hx:=hv.x hk
 generalize v.d.drop (v.d.length-4)=x at hx ⊢
 exact⟨⟨_,func383,rfl,rfl⟩,L1 2 (by decide) v x hv.req hv.hand hx H i hi⟩
theorem ZC(v:VVm)(x:List Int):bM v 122 [69,86,69,82,89] x=dw 3 v x:=by kernel_rfl
theorem ae2(v:VVm)(hv:dA v):ab prog 166 [eVm v,i64 122] (tVm (doS v 122)):=by
 have hk:bi 122 (ao.getD (122:Int).toNat [])=4:=by kernel_rfl
 have hn:ao.getD (122:Int).toNat []=[69,86,69,82,89]:=by kernel_rfl
 rw[aH (by decide) (by decide),hk,hn,ZC]
 refine aW v 122 4 383 [.row [i64 3],.row [i64 4]] _ (by decide) (by decide) (by have:=hv.d;omega) hv.data (by decide) (by simp) (by rw[hn];exact iA 122 _ _ _ _ (by decide) (by simp) rfl rfl rfl rfl rfl rfl) (by unfold dw;split;simp;split;simp;split;simp;split<;>simp) (fun hk H i hi=>?_)
 have hx:=hv.x hk
 generalize v.d.drop (v.d.length-4)=x at hx ⊢
 exact⟨⟨_,func383,rfl,rfl⟩,L1 3 (by decide) v x hv.req hv.hand hx H i hi⟩
theorem Zm(v:VVm)(x:List Int):bM v 123 [67,65,78,67,69,76] x=jr v x:=by kernel_rfl
theorem ad0(v:VVm)(hv:dA v):ab prog 166 [eVm v,i64 123] (tVm (doS v 123)):=by
 have hk:bi 123 (ao.getD (123:Int).toNat [])=1:=by kernel_rfl
 have hn:ao.getD (123:Int).toNat []=[67,65,78,67,69,76]:=by kernel_rfl
 rw[aH (by decide) (by decide),hk,hn,Zm]
 refine aW v 123 1 383 [.row [i64 4],.row [i64 1]] _ (by decide) (by decide) (by have:=hv.d;omega) hv.data (by decide) (by simp) (by rw[hn];exact iA 123 _ _ _ _ (by decide) (by simp) rfl rfl rfl rfl rfl rfl) (by unfold jr;split<;>simp) (fun hk H i hi=>?_)
 have hx:=hv.x hk
 generalize v.d.drop (v.d.length-1)=x at hx ⊢
 exact⟨⟨_,func383,rfl,rfl⟩,QL v x hv.req hx H i hi⟩
theorem Zc(v:VVm)(x:List Int):bM v 124 [65,82,71] x=(v,[v.arg],0):=by kernel_rfl
theorem ac5(v:VVm)(hv:dA v):ab prog 166 [eVm v,i64 124] (tVm (doS v 124)):=by
 have hk:bi 124 (ao.getD (124:Int).toNat [])=0:=by kernel_rfl
 have hn:ao.getD (124:Int).toNat []=[65,82,71]:=by kernel_rfl
 rw[aH (by decide) (by decide),hk,hn,Zc]
 refine aW v 124 0 370 [.row [fnP 349 []]] _ (by decide) (by decide) (by have:=hv.d;omega) hv.data (by decide) (by simp) (by rw[hn];exact iA 124 _ _ _ _ (by decide) (by simp) rfl rfl rfl rfl rfl rfl) (by(show List.length _<=_;simp[bY,bF,du,eJ,fJ,fZ,fL,bW,bA,be,dj,pUM,pM,dh,dk,di,pSD,bz,bJ])) (fun hk H i hi=>?_)
 have hx:=hv.x hk
 generalize v.d.drop (v.d.length-0)=x at hx ⊢
 exact⟨⟨_,func370,rfl,rfl⟩,nj 349 [] v x _ (by simp) (fun H=>⟨⟨_,func349,rfl,rfl⟩,ax9 v H⟩) H i hi⟩
theorem ae3(v:VVm)(x:List Int):bM v 125 [83,69,76,70] x=(v,[v.self],0):=by kernel_rfl
theorem ac0(v:VVm)(hv:dA v):ab prog 166 [eVm v,i64 125] (tVm (doS v 125)):=by
 have hk:bi 125 (ao.getD (125:Int).toNat [])=0:=by kernel_rfl
 have hn:ao.getD (125:Int).toNat []=[83,69,76,70]:=by kernel_rfl
 rw[aH (by decide) (by decide),hk,hn,ae3]
 refine aW v 125 0 370 [.row [fnP 350 []]] _ (by decide) (by decide) (by have:=hv.d;omega) hv.data (by decide) (by simp) (by rw[hn];exact iA 125 _ _ _ _ (by decide) (by simp) rfl rfl rfl rfl rfl rfl) (by(show List.length _<=_;simp[bY,bF,du,eJ,fJ,fZ,fL,bW,bA,be,dj,pUM,pM,dh,dk,di,pSD,bz,bJ])) (fun hk H i hi=>?_)
 have hx:=hv.x hk
 generalize v.d.drop (v.d.length-0)=x at hx ⊢
 exact⟨⟨_,func370,rfl,rfl⟩,nj 350 [] v x _ (by simp) (fun H=>⟨⟨_,func350,rfl,rfl⟩,aC5 v H⟩) H i hi⟩
theorem Zh(v:VVm)(x:List Int):bM v 126 [78,79,87] x=(v,[v.now],0):=by kernel_rfl
theorem af4(v:VVm)(hv:dA v):ab prog 166 [eVm v,i64 126] (tVm (doS v 126)):=by
 have hk:bi 126 (ao.getD (126:Int).toNat [])=0:=by kernel_rfl
 have hn:ao.getD (126:Int).toNat []=[78,79,87]:=by kernel_rfl
 rw[aH (by decide) (by decide),hk,hn,Zh]
 refine aW v 126 0 370 [.row [fnP 351 []]] _ (by decide) (by decide) (by have:=hv.d;omega) hv.data (by decide) (by simp) (by rw[hn];exact iA 126 _ _ _ _ (by decide) (by simp) rfl rfl rfl rfl rfl rfl) (by(show List.length _<=_;simp[bY,bF,du,eJ,fJ,fZ,fL,bW,bA,be,dj,pUM,pM,dh,dk,di,pSD,bz,bJ])) (fun hk H i hi=>?_)
 have hx:=hv.x hk
 generalize v.d.drop (v.d.length-0)=x at hx ⊢
 exact⟨⟨_,func370,rfl,rfl⟩,nj 351 [] v x _ (by simp) (fun H=>⟨⟨_,func351,rfl,rfl⟩,aB4 v H⟩) H i hi⟩
theorem aa9(v:VVm)(x:List Int):bM v 127 [83,69,84,45,83,84,65,84,69] x=gH v x:=by kernel_rfl
theorem ab1(v:VVm)(hv:dA v):ab prog 166 [eVm v,i64 127] (tVm (doS v 127)):=by
 have hk:bi 127 (ao.getD (127:Int).toNat [])=2:=by kernel_rfl
 have hn:ao.getD (127:Int).toNat []=[83,69,84,45,83,84,65,84,69]:=by kernel_rfl
 rw[aH (by decide) (by decide),hk,hn,aa9]
 refine aW v 127 2 352 [] _ (by decide) (by decide) (by have:=hv.d;omega) hv.data (by decide) (by simp) (by rw[hn];exact iA 127 _ _ _ _ (by decide) (by simp) rfl rfl rfl rfl rfl rfl) (by unfold gH du;split<;>simp) (fun hk H i hi=>?_)
 have hx:=hv.x hk
 generalize v.d.drop (v.d.length-2)=x at hx ⊢
 exact⟨⟨_,func352,rfl,rfl⟩,aE1 v x hv.mem hx H i hi⟩
theorem ZH(v:VVm)(x:List Int):bM v 128 [65,84,45,83,84,65,84,69] x=iY v x:=by kernel_rfl
theorem ZF(v:VVm)(hv:dA v):ab prog 166 [eVm v,i64 128] (tVm (doS v 128)):=by
 have hk:bi 128 (ao.getD (128:Int).toNat [])=3:=by kernel_rfl
 have hn:ao.getD (128:Int).toNat []=[65,84,45,83,84,65,84,69]:=by kernel_rfl
 rw[aH (by decide) (by decide),hk,hn,ZH]
 refine aW v 128 3 354 [] _ (by decide) (by decide) (by have:=hv.d;omega) hv.data (by decide) (by simp) (by rw[hn];exact iA 128 _ _ _ _ (by decide) (by simp) rfl rfl rfl rfl rfl rfl) (by unfold iY du;split<;>simp) (fun hk H i hi=>?_)
 have hx:=hv.x hk
 generalize v.d.drop (v.d.length-3)=x at hx ⊢
 exact⟨⟨_,func354,rfl,rfl⟩,aC0 v x hv.mem hx H i hi⟩
theorem Zv(v:VVm)(x:List Int):bM v 129 [71,69,84,45,83,84,65,84,69] x=bY v x:=by kernel_rfl
theorem Yy(v:VVm)(hv:dA v):ab prog 166 [eVm v,i64 129] (tVm (doS v 129)):=by
 have hk:bi 129 (ao.getD (129:Int).toNat [])=1:=by kernel_rfl
 have hn:ao.getD (129:Int).toNat []=[71,69,84,45,83,84,65,84,69]:=by kernel_rfl
 rw[aH (by decide) (by decide),hk,hn,Zv]
 refine aW v 129 1 367 [.row [fnP 39 []]] _ (by decide) (by decide) (by have:=hv.d;omega) hv.data (by decide) (by simp) (by rw[hn];exact iA 129 _ _ _ _ (by decide) (by simp) rfl rfl rfl rfl rfl rfl) (by(show List.length _<=_;simp[bY,bF,du,eJ,fJ,fZ,fL,bW,bA,be,dj,pUM,pM,dh,dk,di,pSD,bz,bJ])) (fun hk H i hi=>?_)
 have hx:=hv.x hk
 generalize v.d.drop (v.d.length-1)=x at hx ⊢
 exact⟨⟨_,func367,rfl,rfl⟩,wX 39 [] v x _ hx.len (by simp) (fun H=>⟨⟨_,func39,rfl,rfl⟩,(gi v.mem _ (gj hv.mem) (hx.fit 0)) H⟩) H i hi⟩
theorem Pp{n:Int}(h0:23<=n)(h1:n<=38):ao.getD n.toNat []∈pp:=by
 have:n=23\/n=24\/n=25\/n=26\/n=27\/n=28\/n=29\/n=30\/n=31\/n=32\/n=33\/n=34\/n=35\/n=36\/n=37\/n=38:=by omega
 rcases this with rfl|rfl|rfl|rfl|rfl|rfl|rfl|rfl|rfl|rfl|rfl|rfl|rfl|rfl|rfl|rfl<;>decide
theorem VE(v:VVm)(hv:dA v)(n:Int):ab prog 166 [eVm v,i64 n] (tVm (doS v n)):=by
 by_cases h:23<=n/\n<=129
 ·by_cases h1:n<=38
  ·have hs:ao.getD n.toNat []∈pp:=Pp h.1 h1
   have e:doS v n=({v with d:=(dJ (ao.getD n.toNat []) v.d v.conf.data).1},(dJ (ao.getD n.toNat []) v.d v.conf.data).2.2):=by
    unfold doS;rw[if_neg (by omega)];simp only;rw[if_pos h1]
   rw[e]
   exact JS v n h.1 h1 hs (by have:=hv.d;omega) hv.data
  by_cases h2:n<=58
  ·exact ag0 v hv n (by omega) h2
  by_cases h3:n<=72
  ·exact ZO v hv n (by omega) h3
  have:n=73\/n=74\/n=75\/n=76\/n=77\/n=78\/n=79\/n=80\/n=81\/n=82\/n=83\/n=84\/n=85\/n=86\/n=87\/n=88\/n=89\/n=90\/n=91\/n=92\/n=93\/n=94\/n=95\/n=96\/n=97\/n=98\/n=99\/n=100\/n=101\/n=102\/n=103\/n=104\/n=105\/n=106\/n=107\/n=108\/n=109\/n=110\/n=111\/n=112\/n=113\/n=114\/n=115\/n=116\/n=117\/n=118\/n=119\/n=120\/n=121\/n=122\/n=123\/n=124\/n=125\/n=126\/n=127\/n=128\/n=129:=by omega
  rcases this with rfl|rfl|rfl|rfl|rfl|rfl|rfl|rfl|rfl|rfl|rfl|rfl|rfl|rfl|rfl|rfl|rfl|rfl|rfl|rfl|rfl|rfl|rfl|rfl|rfl|rfl|rfl|rfl|rfl|rfl|rfl|rfl|rfl|rfl|rfl|rfl|rfl|rfl|rfl|rfl|rfl|rfl|rfl|rfl|rfl|rfl|rfl|rfl|rfl|rfl|rfl|rfl|rfl|rfl|rfl|rfl|rfl
  ·exact ap9 v hv
  ·exact as1 v hv
  ·exact ar8 v hv
  ·exact aw5 v hv
  ·exact at8 v hv
  ·exact an7 v hv
  ·exact as2 v hv
  ·exact ap3 v hv
  ·exact au9 v hv
  ·exact av9 v hv
  ·exact av8 v hv
  ·exact am5 v hv
  ·exact au2 v hv
  ·exact ak8 v hv
  ·exact aw4 v hv
  ·exact aw1 v hv
  ·exact aw8 v hv
  ·exact ar9 v hv
  ·exact al4 v hv
  ·exact ak0 v hv
  ·exact ax2 v hv
  ·exact au8 v hv
  ·exact at1 v hv
  ·exact aq0 v hv
  ·exact au3 v hv
  ·exact as4 v hv
  ·exact ao1 v hv
  ·exact ZR v hv
  ·exact ae4 v hv
  ·exact Zo v hv
  ·exact ab4 v hv
  ·exact ad5 v hv
  ·exact ZM v hv
  ·exact YB v hv
  ·exact Zb v hv
  ·exact ZX v hv
  ·exact Yz v hv
  ·exact ah0 v hv
  ·exact Za v hv
  ·exact Zl v hv
  ·exact ac8 v hv
  ·exact Zs v hv
  ·exact af5 v hv
  ·exact Z0 v hv
  ·exact aa4 v hv
  ·exact Y3 v hv
  ·exact af6 v hv
  ·exact ag7 v hv
  ·exact Zu v hv
  ·exact ae2 v hv
  ·exact ad0 v hv
  ·exact ac5 v hv
  ·exact ac0 v hv
  ·exact af4 v hv
  ·exact ab1 v hv
  ·exact ZF v hv
  exact Yy v hv
 have e:doS v n=(v,-24):=by unfold doS;rw[if_pos (by omega)]
 rw[e];exact ad4 v n h
def Th(v:VVm):Bool:=decide (d9 v.conf/\lV v.mem=true/\ig v.dict=true/\d8 v.pic/\(v.mem.b.length:Int)=v.conf.mem/\1368<=v.here/\v.here<=v.conf.mem)
def qp(f:jc):Bool:=decide (0<=f.d/\f.d<=256/\0<=f.r/\f.r<=256)
def Fa(h:sd):Bool:=decide (0<=h.fuel)
def OX(v:VVm):Bool:=decide ((v.d.length:Int)<=v.conf.data/\(v.r.length:Int)<=v.conf.ret/\v.f.length<=64/\(v.dict.length:Int)<=v.conf.words/\(v.out.length:Int)<=v.conf.out/\v.req.length<=16/\0<=v.free/\v.free<=64/\0<=v.next/\v.next<=4611686018427387904/\v.hand.length<=64)
def Fc(v:VVm):Bool:=Th v&&(v.f.all qp&&(v.hand.all Fa&&OX v))
theorem Sc(n:Int):ae (wrap64 n):=ii n
theorem GG(n:Nat):ae (S n):=XP n
theorem jA:ae 0:=by unfold ae;omega
theorem wz(b:Bool):ae (eZ b):=by unfold eZ ae;split<;>omega
theorem HF{a b:Int}(hb:ae b)(h0:b≠0):ae (a.fmod b):=by
 unfold ae at hb ⊢
 rw[Int.fmod_eq_emod]
 have h1:=Int.emod_nonneg a h0
 have h2:a%b<b.natAbs:=by
  rcases Int.lt_or_gt_of_ne h0 with h|h
  ·have:=Int.emod_lt_of_pos a (show 0 < -b by omega);rw[Int.emod_neg]at this;omega
  have:=Int.emod_lt_of_pos a h;omega
 split<;>omega
theorem RI{a b:Int}(hb:ae b)(h0:b≠0):ae (a.tmod b):=by
 unfold ae at hb ⊢
 have h1:(a.tmod b).natAbs=a.natAbs%b.natAbs:=Int.natAbs_tmod a b
 have h2:a.natAbs%b.natAbs<b.natAbs:=Nat.mod_lt _ (by omega)
 omega
theorem BM{n:Int}(h:gd n=true):ae n:=by unfold gd at h;unfold ae;simpa using h
theorem yC{a b:Int}(hb:ae b):ae (m9 a b).1/\ae (m9 a b).2.1:=by
 unfold m9
 split
 ·exact⟨jA,jA⟩
 rename_i h0;exact⟨Sc _,HF hb h0⟩
theorem rY{lo hi d:Int}(hd:ae d):ae (jv lo hi d).1/\ae (jv lo hi d).2.1:=by
 unfold jv
 split
 ·exact⟨jA,jA⟩
 rename_i h0
 split
 ·rename_i h1;exact⟨BM h1,HF hd h0⟩
 exact⟨jA,jA⟩
theorem FJ{lo hi d:Int}(hd:ae d):ae (lc lo hi d).1/\ae (lc lo hi d).2.1:=by
 unfold lc
 split
 ·exact⟨jA,jA⟩
 rename_i h0
 split
 ·rename_i h1;exact⟨BM h1,RI hd h0⟩
 exact⟨jA,jA⟩
theorem vk{lo hi d:Int}:ae (io lo hi d).1/\ae (io lo hi d).2.1:=by
 unfold io
 split
 ·exact⟨jA,jA⟩
 split
 ·exact⟨jA,jA⟩
 exact⟨GG _,GG _⟩
theorem N0(a b:Int)(up:Bool):ae (qr a b up):=by
 unfold qr
 split
 ·exact jA
 split<;>exact GG _
theorem Vu(o:Op1){a:Int}(ha:ae a):ae (one o a):=by
 unfold ae at *
 cases o<;>simp only[one]<;>first|exact ii _|exact wz _|(split<;>first|exact ii _|omega)|omega
theorem WK(o:Op2){a b:Int}(ha:ae a)(hb:ae b):ae (two o a b).1:=by
 cases o<;>simp only[two]<;>first|exact(yC hb).1|exact(yC hb).2|exact Sc _|exact N0 _ _ _|exact wz _|(split<;>assumption)
theorem O9(name:Str){a:Int}(ha:ae a):ae (v7 name a).1:=by
 unfold v7
 split
 ·exact Vu _ ha
 exact jA
theorem OZ(name:Str){a b:Int}(ha:ae a)(hb:ae b):ae (lU name a b).1:=by
 unfold lU
 split
 ·exact WK _ ha hb
 exact jA
theorem tq(m:bj)(a:Int):ae (am m a).1:=by
 unfold am ID
 split
 ·exact Sc _
 exact jA
theorem Ab(m:bj)(a:Int):ae (dU m a).1:=by
 unfold dU
 split
 ·have:=(m.b.getD a.toNat 0).toNat_lt;unfold ae;simp only;omega
 exact jA
structure dH (m m':bj) (k:Nat):Prop where
 right:lV m=true->lV m'=true
 len:m'.b.length=m.b.length
 old:m'.old.length<=m.old.length+k
theorem dH.refl(m:bj)(k:Nat):dH m m k:=⟨id,rfl,Nat.le_add_right _ _⟩
theorem dH.trans{a b c:bj}{i j:Nat}(h:dH a b i)(g:dH b c j):dH a c (i+j):=⟨fun q=>g.right (h.right q),g.len.trans h.len,by have:=h.old;have:=g.old;omega⟩
theorem dH.up{a b:bj}{i j:Nat}(h:dH a b i)(hij:i<=j):dH a b j:=⟨h.right,h.len,by have:=h.old;omega⟩
theorem Cb{m m':bj}(h:m'.b.length=m.b.length)(a n:Int):bp m' a n=bp m a n:=by unfold bp;rw[h]
theorem kf(m:bj)(a:Int)(b:List UInt8):dH m (ce m a b).1 1:=by
 have hl:=vN m a b
 refine⟨fun h=>?_,hl,wi m a b⟩
 unfold lV at h ⊢
 rw[hl]
 rw[Bool.and_eq_true]at h ⊢
 refine⟨?_,h.2⟩
 have hall:∀p∈m.old,bp (ce m a b).1 p.place p.old.length=true:=fun p hp=>by rw[Cb hl];exact List.all_eq_true.1 h.1 p hp
 rw[List.all_eq_true]
 intro p hp
 unfold ce at hp
 split at hp
 ·rename_i ht
  split at hp
  ·exact hall p hp
  rcases List.mem_append.1 hp with hp|hp
  ·exact hall p hp
  simp only[List.mem_singleton]at hp
  subst hp
  rw[Cb hl]
  simp only[List.length_take,List.length_drop]
  rcases vI ht with h0|⟨h0,h1,h2⟩
  ·unfold bp;exact decide_eq_true (.inl (by omega))
  unfold bp;exact decide_eq_true (.inr ⟨by omega,h1,by omega⟩)
 exact hall p hp
theorem cM(m:bj)(a n:Int):dH m (aF m a n).1 1:=by
 unfold aF;split
 ·exact kf _ _ _
 exact .refl _ _
theorem Iu(m:bj)(a n c:Int):dH m (m5 m a n c).1 1:=by
 unfold m5;split
 ·exact kf _ _ _
 exact .refl _ _
theorem Kk(m:bj)(a b n:Int):dH m (m4 m a b n).1 1:=by
 unfold m4;split
 ·exact kf _ _ _
 exact .refl _ _
theorem gS{m:bj}{here:Int}(b:List UInt8):dH m (da m here b).1 1:=by
 unfold da;split
 ·exact .refl _ _
 exact kf _ _ _
theorem iu{m:bj}{here:Int}(b:List UInt8)(h0:1368<=here)(h1:here<=m.b.length):1368<=(da m here b).2.1/\(da m here b).2.1<=m.b.length:=by
 unfold da;split
 ·exact⟨h0,h1⟩
 simp only;omega
theorem uj{p:dS}(c:Int)(h:d8 p):d8 (gC p c).1:=by
 unfold gC;split
 ·rename_i hc;exact⟨by simp;omega,.inl hc.1⟩
 exact h
theorem sx{p:dS}(lo hi base:Int)(h:d8 p):d8 (aI p lo hi base).1:=by
 unfold aI;split
 ·exact h
 split
 ·exact uj _ h
 exact h
theorem AJ(base:Int):∀(n:Nat) {q:dS} (lo hi:Int),d8 q->d8 (rn n q lo hi base).1
 | 0,q,lo,hi,h=>h
 | n+1,q,lo,hi,h=>by
  unfold rn
  split
  ·exact h
  split
  ·exact sx _ _ _ h
  exact AJ base n _ _ (sx _ _ _ h)
theorem Nq{p:dS}(lo hi base:Int)(h:d8 p):d8 (ut p lo hi base).1:=by
 unfold ut OH
 split
 ·exact AJ base _ _ _ h
 exact h
theorem JH{p:dS}(n:Int)(h:d8 p):d8 (oM p n).1:=by
 unfold oM;split
 ·exact h
 exact uj _ h
theorem Cq{p:dS}{lo hi base:Int}(hl:ae lo)(hh:ae hi):ae (aI p lo hi base).2.1/\ae (aI p lo hi base).2.2.1:=by
 unfold aI;split
 ·exact⟨hl,hh⟩
 split
 ·exact⟨vk.1,vk.1⟩
 exact⟨hl,hh⟩
end Go.Proofs.YtjcminooghmpeaaGreatDoor
