/- The Go functions of this seat that the laws of part A come to, each as a plain Lean function ('f', its loops 'l0' ..) with a proof that the call comes to its answer. Conditions: where a function comes to a package-level table, the world holds that table ('Tabs'). Written by a program of this session (a changed copy of the print). -/
import Derived.Test.YtidbcenbcllfnaaDoorKPAx0
namespace Go.Proofs.YtidbcenbcllfnaaDoor.PA
open Go.RowKit Go.Proofs.YtidbcenbcllfnaaDoorW.PrintWords Go.Proofs.YtidbcenbcllfnaaDoorW.PrintLast Go.Proofs.YtidbcenbcllfnaaDoorW.PrintMore
attribute [local go_sem] max2_int min2_int max_two min_two max_three min_three max_four min_four   -- for this text's walks alone
set_option linter.unusedVariables false
set_option linter.unusedSimpArgs false

theorem eqA33 (d : Nat) (w : World) (x0 y0 : Int) (x1 y1 : Int) (x2 y2 : ByteArray) (x3 y3 : Int) (x4 y4 : Int) :
    (Op.equalIn (d + 2) 33 (.agg #[.int .i64 x0, .int .i64 x1, .string x2, .int .i64 x3, .int .i64 x4]) (.agg #[.int .i64 y0, .int .i64 y1, .string y2, .int .i64 y3, .int .i64 y4])).run Tryd.prog w = .ok (x0 == y0 && (x1 == y1 && (x2.toList == y2.toList && (x3 == y3 && (x4 == y4))))) w := by
  refine eqA_of Tryd.underlying33 (by kernel_rfl) ?_
  refine eqf_cons (by rfl) (by go_simp; rfl) (by go_simp; rfl) (by go_simp) ?_
  refine eqf_cons (by rfl) (by go_simp; rfl) (by go_simp; rfl) (by go_simp) ?_
  refine eqf_cons (by rfl) (by go_simp; rfl) (by go_simp; rfl) (by go_simp) ?_
  refine eqf_cons (by rfl) (by go_simp; rfl) (by go_simp; rfl) (by go_simp) ?_
  exact eqf_last (by rfl) (by go_simp; rfl) (by go_simp; rfl) (by go_simp)
end Go.Proofs.YtidbcenbcllfnaaDoor.PA
