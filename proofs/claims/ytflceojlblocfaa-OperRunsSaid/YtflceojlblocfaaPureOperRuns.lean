/- The closed sentence of chapter 5 holds: what some operations make of some events is as the chapter says. There is no input and no condition. -/
import Derived.Test.YtflceojlblocfaaPOperRunsx1
namespace Go.Proofs.Ytflceojlblocfaa.Pure
open Go.RowKit Go.Proofs.Ytflceojlblocfaa.POperRuns Go.Proofs.YtflceojlblocfaaW.PrintWords Go.Proofs.YtflceojlblocfaaW.PrintLast

theorem OperRuns : cordonlaw5_OperRuns.Pure := by
  exact ⟨60, by decide +kernel⟩

end Go.Proofs.Ytflceojlblocfaa.Pure
