import Derived.Test.YtliajhikhmgbjaaBA
import Derived.Test.YtliajhikhmgbjaaB8
namespace Go.Proofs.YtliajhikhmgbjaaS
open Go.RowKit
set_option linter.unusedVariables false
theorem partsL (a1 : Option Addr) (l1 : List Rl) (c1 : Nat) (T : Int) (a2 : Option Addr) (steps : List Int) (c2 : Nat) (tenant : Int) (w : (Lit.int .u64 T).wf = true) (y1 : l1.length ≤ c1) : Spec Try.prog 4 [.slice a1 l1.length c1, .int .u64 T, .slice a2 steps.length c2, .int .i64 tenant] (rs a1 (l1.flatMap lc) * rs a2 (ints .i64 steps)) (X := Unit) (fun _ => .bool true) (fun _ => True) (fun _ => 1) := by
  obtain ⟨x, rfl⟩ := U_of w
  exact parts a1 l1 c1 x a2 steps c2 tenant y1
end Go.Proofs.YtliajhikhmgbjaaS
