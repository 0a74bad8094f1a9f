/- The closed sentence of chapter 9 holds: a pipe's bytes, the pipe that they are decoded to, and what is the same are as the chapter says. There is no input and no condition. -/
import Derived.Test.YtdjijnpcpbjfoaaPPipeRunsx6
namespace Go.Proofs.Ytdjijnpcpbjfoaa.Pure
open Go.RowKit Go.Proofs.Ytdjijnpcpbjfoaa.PPipeRuns Go.Proofs.YtdjijnpcpbjfoaaW.PrintWords Go.Proofs.YtdjijnpcpbjfoaaW.PrintLast

theorem PipeRuns : cordonlaw9_PipeRuns.Pure := by
  exact ⟨100, by decide +kernel⟩

end Go.Proofs.Ytdjijnpcpbjfoaa.Pure
