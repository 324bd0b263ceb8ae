/- The statement CellBack: its walk, whatever is handed in. No condition. -/
import Derived.Test.YtkchnmilmepnfaaCellR
import Derived.Test.YtkchnmilmepnfaaEngK
namespace Go.Proofs.Ytkchnmilmepnfaa
open Go.RowKit
open Go.WideShapes
set_option linter.unusedVariables false
set_option maxRecDepth 100000 in
theorem walk_CellBack (v0 v1 v2 : Value) (w : World) (h0 : Reads w 3 v0) (h1 : Reads w 3 v1) (h2 : Reads w 22 v2) :
    Calls Try.prog 3 #[v0, v1, v2] w fun e w' => e = .returned (.bool true) ∧ Below w.heap.size w w' := by
  obtain ⟨n, rfl, hn⟩ := reads_int Try.underlying3 h0
  obtain ⟨m, rfl, hm⟩ := reads_int Try.underlying3 h1
  have hr := reads_rd h2
  obtain ⟨H, enc, d, p, base, hv, hd⟩ := h2
  obtain ⟨cs, rfl, hs⟩ := okWide_array Try.underlying22 hv
  obtain ⟨x0, x1, x2, x3, x4, x5, x6, x7, hb, hcs⟩ := rd_array8 Try.underlying22 Try.underlying5 (by kernel_rfl) (by kernel_rfl) hr
  have e : cs = #[.int .u8 x0, .int .u8 x1, .int .u8 x2, .int .u8 x3, .int .u8 x4, .int .u8 x5, .int .u8 x6, .int .u8 x7] := agg_list hcs
  subst e
  refine law_calls (args := [.val (.int .i64 n), .val (.int .i64 m), .agg [byteP x0, byteP x1, byteP x2, byteP x3, byteP x4, byteP x5, byteP x6, byteP x7]]) (eng_CellBack n m x0 x1 x2 x3 x4 x5 x6 x7 (fit_wf hn) (fit_wf hm) (fun x hx => ?_)) ?_
  · have := byte_wf (hb x hx); omega
  · refine repL_cons.2 ⟨rep_val _ _, repL_cons.2 ⟨rep_val _ _, repL_cons.2 ⟨?_, repL_nil.2 rfl⟩⟩⟩
    unfold Rep
    refine ⟨[.int .u8 x0, .int .u8 x1, .int .u8 x2, .int .u8 x3, .int .u8 x4, .int .u8 x5, .int .u8 x6, .int .u8 x7], rfl, ?_⟩
    unfold byteP
    exact repL_cons.2 ⟨rep_val _ _, repL_cons.2 ⟨rep_val _ _, repL_cons.2 ⟨rep_val _ _, repL_cons.2 ⟨rep_val _ _, repL_cons.2 ⟨rep_val _ _, repL_cons.2 ⟨rep_val _ _, repL_cons.2 ⟨rep_val _ _, repL_cons.2 ⟨rep_val _ _, repL_nil.2 rfl⟩⟩⟩⟩⟩⟩⟩⟩
end Go.Proofs.Ytkchnmilmepnfaa
