/- This session's texts for the claim, joined and shortened by this session's own program pack.py: what the claim does not need is struck. Part: PD1. -/
import Derived.Test.YtkdfilpinlebbaaDoorQPD0
namespace Go.Proofs.YtkdfilpinlebbaaDoor.PD
open Go.RowKit Go.Proofs.YtkdfilpinlebbaaDoor.G Go.Proofs.YtkdfilpinlebbaaDoorW.PrintWords Go.Proofs.YtkdfilpinlebbaaDoorW.PrintLast Go.Proofs.YtkdfilpinlebbaaDoorW.PrintMore
attribute [local go_sem] max2_int min2_int max_two min_two max_three min_three max_four min_four
set_option linter.unusedVariables false
set_option linter.unusedSimpArgs false
theorem eqA28 (d : Nat) (w : World) (x0 y0 : Int) (x1 y1 : ByteArray) (x2 y2 : Int) (x3 y3 : Int) (x4 y4 : ByteArray) :
    (Op.equalIn (d + 2) 28 (.agg #[.int .i64 x0, .string x1, .int .i64 x2, .int .i64 x3, .string x4]) (.agg #[.int .i64 y0, .string y1, .int .i64 y2, .int .i64 y3, .string y4])).run Tryd.prog w = .ok (x0 == y0 && (x1.toList == y1.toList && (x2 == y2 && (x3 == y3 && (x4.toList == y4.toList))))) w := by
  refine eqA_of Tryd.underlying28 (by kernel_rfl) ?_
  refine eqf_cons (by rfl) (by go_simp; rfl) (by go_simp; rfl) (by go_simp) ?_
  refine eqf_cons (by rfl) (by go_simp; rfl) (by go_simp; rfl) (by go_simp) ?_
  refine eqf_cons (by rfl) (by go_simp; rfl) (by go_simp; rfl) (by go_simp) ?_
  refine eqf_cons (by rfl) (by go_simp; rfl) (by go_simp; rfl) (by go_simp) ?_
  exact eqf_last (by rfl) (by go_simp; rfl) (by go_simp; rfl) (by go_simp)
end Go.Proofs.YtkdfilpinlebbaaDoor.PD
