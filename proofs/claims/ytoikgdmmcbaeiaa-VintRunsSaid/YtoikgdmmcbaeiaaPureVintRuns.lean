/- The closed sentence of chapter 3 holds: some ints' bytes, what is no ints' bytes, and two sizes are as the chapter says. There is no input and no condition. -/
import Derived.Test.YtoikgdmmcbaeiaaPVintRunsx2
namespace Go.Proofs.Ytoikgdmmcbaeiaa.Pure
open Go.RowKit Go.Proofs.Ytoikgdmmcbaeiaa.PVintRuns Go.Proofs.YtoikgdmmcbaeiaaW.PrintWords Go.Proofs.YtoikgdmmcbaeiaaW.PrintLast

theorem VintRuns : cordonlaw3_VintRuns.Pure := by
  exact ⟨60, by decide +kernel⟩

end Go.Proofs.Ytoikgdmmcbaeiaa.Pure
