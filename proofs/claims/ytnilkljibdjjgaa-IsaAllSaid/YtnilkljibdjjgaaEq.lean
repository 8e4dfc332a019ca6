/-
  Two instructions held against each other, as one Bool.
-/
import Derived.Test.YtnilkljibdjjgaaProg
import Derived.Test.YtnilkljibdjjgaaWEqStruct
import Derived.WalkKit
import Derived.KernelRfl
namespace Go.Proofs.Ytnilkljibdjjgaa.Isa
open Go Go.RowKit

/-- Two instructions held against each other, as one Bool. -/
theorem eqIns (d : Nat) (w : World) (x0 y0 x1 y1 x2 y2 x3 y3 x4 y4 x5 y5 : Int) (x6 y6 : Bool) :
    (Op.equalIn (d + 2) 23 (.agg #[.int .i64 x0, .int .i64 x1, .int .i64 x2, .int .i64 x3, .int .i64 x4, .int .i64 x5, .bool x6]) (.agg #[.int .i64 y0, .int .i64 y1, .int .i64 y2, .int .i64 y3, .int .i64 y4, .int .i64 y5, .bool y6])).run Try.prog w = .ok (x0 == y0 && (x1 == y1 && (x2 == y2 && (x3 == y3 && (x4 == y4 && (x5 == y5 && (x6 == y6))))))) w := by
  refine Go.Proofs.YtnilkljibdjjgaaW.PrintWords.eqA_of Try.underlying23 (by kernel_rfl) ?_
  refine Go.Proofs.YtnilkljibdjjgaaW.PrintWords.eqf_cons (by rfl) (by go_simp; rfl) (by go_simp; rfl) (by go_simp) ?_
  refine Go.Proofs.YtnilkljibdjjgaaW.PrintWords.eqf_cons (by rfl) (by go_simp; rfl) (by go_simp; rfl) (by go_simp) ?_
  refine Go.Proofs.YtnilkljibdjjgaaW.PrintWords.eqf_cons (by rfl) (by go_simp; rfl) (by go_simp; rfl) (by go_simp) ?_
  refine Go.Proofs.YtnilkljibdjjgaaW.PrintWords.eqf_cons (by rfl) (by go_simp; rfl) (by go_simp; rfl) (by go_simp) ?_
  refine Go.Proofs.YtnilkljibdjjgaaW.PrintWords.eqf_cons (by rfl) (by go_simp; rfl) (by go_simp; rfl) (by go_simp) ?_
  refine Go.Proofs.YtnilkljibdjjgaaW.PrintWords.eqf_cons (by rfl) (by go_simp; rfl) (by go_simp; rfl) (by go_simp) ?_
  exact Go.Proofs.YtnilkljibdjjgaaW.PrintWords.eqf_last (by rfl) (by go_simp; rfl) (by go_simp; rfl) (by go_simp)
end Go.Proofs.Ytnilkljibdjjgaa.Isa
