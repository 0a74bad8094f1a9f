import Derived.Test.YtlkapmaacepkjaaX7
import Derived.Test.YtlkapmaacepkjaaSk
namespace Go.Proofs.YtlkapmaacepkjaaS
open Go.RowKit
theorem eqA23 (d : Nat) (w : World) (x0 y0 : Int) :
    (Op.equalIn (d + 2) 23 (.agg #[.int .i64 x0]) (.agg #[.int .i64 y0])).run Try.prog w = .ok (x0 == y0) w := by
  refine eqA_of Try.underlying23 (by kernel_rfl) ?_
  exact eqf_last (by rfl) (by go_simp; rfl) (by go_simp; rfl) (by go_simp)
theorem eqA25 (d : Nat) (w : World) (x0 y0 : Int) (x1 y1 : Int) (x2 y2 : Int) :
    (Op.equalIn (d + 3) 25 (.agg #[.int .i64 x0, .int .i64 x1, .int .i64 x2]) (.agg #[.int .i64 y0, .int .i64 y1, .int .i64 y2])).run Try.prog w = .ok ((x0 == y0) && (x1 == y1 && (x2 == y2))) w := by
  refine eqA_of Try.underlying25 (by kernel_rfl) ?_
  refine eqf_cons (by rfl) (by go_simp) (by go_simp) (eqA23 (d + 0) w _ _) ?_
  refine eqf_cons (by rfl) (by go_simp; rfl) (by go_simp; rfl) (by go_simp) ?_
  exact eqf_last (by rfl) (by go_simp; rfl) (by go_simp; rfl) (by go_simp)
set_option linter.unusedVariables false
set_option linter.unusedSimpArgs false
attribute [local irreducible] Ops Ex Spec T V QO OA Rn
theorem eqv (c k x c' k' x' : Int) : ∀ w, (Op.equalIn 10000 25 (.agg [.int .i64 c, .int .i64 k, .int .i64 x].toArray) (.agg [.int .i64 c', .int .i64 k', .int .i64 x'].toArray)).run Try.prog w = .ok ((c == c') && (k == k' && (x == x'))) w := fun w => eqA25 9997 w c c' k k' x x'
end Go.Proofs.YtlkapmaacepkjaaS
