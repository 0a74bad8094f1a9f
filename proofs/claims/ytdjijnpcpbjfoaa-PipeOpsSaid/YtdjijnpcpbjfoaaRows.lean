/-
  No cell of these rows narrows 'for every input' (looked for: loops, veiled, ifaces, maps, wideKeys, modest, calm, conditions, laid).
  DERIVED. THE GIVEN ROWS OF THIS SEAT. 5 by the template 'for every input the law returns true; each argument reads behind the call as it read before'; 0 by the template 'total and deterministic' (their statements: YtdjijnpcpbjfoaaTotals.lean).
  GIVEN WITH THE SEED: the statements are not yours to turn. If you find one false, say at which input.
  Laid BY PROGRAM, IN A SANDBOX (cutbox-rows.mjs): the forced cells as the released guide's own fill.sh prints them over the translation d48cd36ed66fd13d… (all of the seat's roots in one cut). By AI agents, Wed Nov 11 2026. No macro, syntax, notation, axiom, sorry.
-/
import Derived.Test.YtdjijnpcpbjfoaaChecked
import GoSem.Claim
import GoSem.ClaimJoined
import GoSem.ClaimMapViews
import Derived.JoinedTies
import Derived.KernelRfl
namespace Go.Proofs.Ytdjijnpcpbjfoaa
/- THE CELL 'sum', in the pinned program and in every row, IS THE sha256 OF THE DUMP (.gsa) THAT YtdjijnpcpbjfoaaProg.lean LOADS. Nothing in Lean hashes anything: it is a label: what it is worth is what the hold of that sum in a sandbox is worth. -/
noncomputable def Try.pinned : Pinned := { name := "ytdjijnpcpbjfoaa", sum := "d48cd36ed66fd13dbfe8519cbd316684917a3e67186fced655b7b810718087b9", checked := Try.checked }
namespace Rows
def none {H : Type} : Left H := { results := [], args := [] }

/-- 'cordonlaw9.PipeRuns': WHATEVER THE INPUT: true; the input reads as it did. -/
def pipeRunsSpec : ChangeSpec := { name := "pipeRuns", fn := fun _ => fun
  | [] => { results := [.lit (.bool true)], args := [] }
  | _ => none }
def pipeRunsRow : OpenClaim := { program := "ytdjijnpcpbjfoaa", sum := "d48cd36ed66fd13dbfe8519cbd316684917a3e67186fced655b7b810718087b9", func := "cordon/cordonlaw9.PipeRuns", spec := "pipeRuns", apart := false }
def PipeRunsSaid : Prop := pipeRunsRow.holds Try.pinned (OpenSpec.ofChange pipeRunsSpec)

/-- ITS FALSE NEIGHBOUR: 'it returns false'. Refute it at one input. -/
def pipeRunsWrong : ChangeSpec := { name := "pipeRuns", fn := fun _ => fun
  | [] => { results := [.lit (.bool false)], args := [] }
  | _ => none }
def PipeRunsWrongFalsely : Prop := pipeRunsRow.holds Try.pinned (OpenSpec.ofChange pipeRunsWrong)

/-- 'cordonlaw9.PipeTells': WHATEVER THE INPUT: true; the input reads as it did. -/
def pipeTellsSpec : ChangeSpec := { name := "pipeTells", fn := fun _ => fun
  | [d1, d2, d3, d4] => { results := [.lit (.bool true)], args := [d1, d2, d3, d4] }
  | _ => none }
def pipeTellsRow : OpenClaim := { program := "ytdjijnpcpbjfoaa", sum := "d48cd36ed66fd13dbfe8519cbd316684917a3e67186fced655b7b810718087b9", func := "cordon/cordonlaw9.PipeTells", spec := "pipeTells", apart := false }
def PipeTellsSaid : Prop := pipeTellsRow.holds Try.pinned (OpenSpec.ofChange pipeTellsSpec)

/-- ITS FALSE NEIGHBOUR: 'it returns false'. Refute it at one input. -/
def pipeTellsWrong : ChangeSpec := { name := "pipeTells", fn := fun _ => fun
  | [d1, d2, d3, d4] => { results := [.lit (.bool false)], args := [d1, d2, d3, d4] }
  | _ => none }
def PipeTellsWrongFalsely : Prop := pipeTellsRow.holds Try.pinned (OpenSpec.ofChange pipeTellsWrong)

/-- 'cordonlaw9.PipeOnly': WHATEVER THE INPUT: true; the input reads as it did. -/
def pipeOnlySpec : ChangeSpec := { name := "pipeOnly", fn := fun _ => fun
  | [d1, d2, d3, d4, d5] => { results := [.lit (.bool true)], args := [d1, d2, d3, d4, d5] }
  | _ => none }
def pipeOnlyRow : OpenClaim := { program := "ytdjijnpcpbjfoaa", sum := "d48cd36ed66fd13dbfe8519cbd316684917a3e67186fced655b7b810718087b9", func := "cordon/cordonlaw9.PipeOnly", spec := "pipeOnly", apart := false }
def PipeOnlySaid : Prop := pipeOnlyRow.holds Try.pinned (OpenSpec.ofChange pipeOnlySpec)

/-- ITS FALSE NEIGHBOUR: 'it returns false'. Refute it at one input. -/
def pipeOnlyWrong : ChangeSpec := { name := "pipeOnly", fn := fun _ => fun
  | [d1, d2, d3, d4, d5] => { results := [.lit (.bool false)], args := [d1, d2, d3, d4, d5] }
  | _ => none }
def PipeOnlyWrongFalsely : Prop := pipeOnlyRow.holds Try.pinned (OpenSpec.ofChange pipeOnlyWrong)

/-- 'cordonlaw9.PipeEdges': WHATEVER THE INPUT: true; the input reads as it did. -/
def pipeEdgesSpec : ChangeSpec := { name := "pipeEdges", fn := fun _ => fun
  | [d1, d2, d3] => { results := [.lit (.bool true)], args := [d1, d2, d3] }
  | _ => none }
def pipeEdgesRow : OpenClaim := { program := "ytdjijnpcpbjfoaa", sum := "d48cd36ed66fd13dbfe8519cbd316684917a3e67186fced655b7b810718087b9", func := "cordon/cordonlaw9.PipeEdges", spec := "pipeEdges", apart := false }
def PipeEdgesSaid : Prop := pipeEdgesRow.holds Try.pinned (OpenSpec.ofChange pipeEdgesSpec)

/-- ITS FALSE NEIGHBOUR: 'it returns false'. Refute it at one input. -/
def pipeEdgesWrong : ChangeSpec := { name := "pipeEdges", fn := fun _ => fun
  | [d1, d2, d3] => { results := [.lit (.bool false)], args := [d1, d2, d3] }
  | _ => none }
def PipeEdgesWrongFalsely : Prop := pipeEdgesRow.holds Try.pinned (OpenSpec.ofChange pipeEdgesWrong)

/-- 'cordonlaw9.PipeOps': WHATEVER THE INPUT: true; the input reads as it did. -/
def pipeOpsSpec : ChangeSpec := { name := "pipeOps", fn := fun _ => fun
  | [d1, d2] => { results := [.lit (.bool true)], args := [d1, d2] }
  | _ => none }
def pipeOpsRow : OpenClaim := { program := "ytdjijnpcpbjfoaa", sum := "d48cd36ed66fd13dbfe8519cbd316684917a3e67186fced655b7b810718087b9", func := "cordon/cordonlaw9.PipeOps", spec := "pipeOps", apart := false }
def PipeOpsSaid : Prop := pipeOpsRow.holds Try.pinned (OpenSpec.ofChange pipeOpsSpec)

/-- ITS FALSE NEIGHBOUR: 'it returns false'. Refute it at one input. -/
def pipeOpsWrong : ChangeSpec := { name := "pipeOps", fn := fun _ => fun
  | [d1, d2] => { results := [.lit (.bool false)], args := [d1, d2] }
  | _ => none }
def PipeOpsWrongFalsely : Prop := pipeOpsRow.holds Try.pinned (OpenSpec.ofChange pipeOpsWrong)

/- THE SECOND FORM. 'bulk': how many values and letters a reading holds, each counted each time it is reached (what is shared counts as often as it is met; a slice's spare places count too). A statement '..UptoSaid' is the law's where the arguments, and the package variables that the reading takes, are together of bulk at most 1048576: NARROWER than '..Said'. Prove '..Said' where nothing that the law and all that it calls make is longer than what came in: it says more and counts as full. Else prove '..UptoSaid'. A law counts once. -/
mutual
def uptoBulk {H : Type} : DataW H → Nat
  | .lit (.string bytes) => bytes.length + 1
  | .lit _ => 1
  | .nil => 1
  | .ptr d => uptoBulk d + 1
  | .slice elems spare => uptoBulkAll elems + uptoBulkAll spare + 1
  | .agg parts => uptoBulkAll parts + 1
  | .iface _ d => uptoBulk d + 1
  | .map entries => uptoBulkEntries entries + 1
  | .held _ => 1
def uptoBulkAll {H : Type} : List (DataW H) → Nat
  | [] => 0
  | d :: r => uptoBulk d + uptoBulkAll r
def uptoBulkEntries {H : Type} : List (Lit × DataW H) → Nat
  | [] => 0
  | x :: r => uptoBulkEntry x + uptoBulkEntries r
def uptoBulkEntry {H : Type} : Lit × DataW H → Nat
  | (.string bytes, d) => bytes.length + uptoBulk d + 1
  | (_, d) => uptoBulk d + 1
 end
def uptoSmall : (H : Type) → List (DataW H) → Bool := fun _ ds => decide (uptoBulkAll ds ≤ 1048576)
def OpenSpec.upto (s : _root_.Go.ChangeSpec) : _root_.Go.OpenSpec := { _root_.Go.OpenSpec.ofChange s with cond := some uptoSmall }

/-- 'cordonlaw9.PipeRuns', WHERE WHAT IT READS IS OF BULK AT MOST 1048576: true; the input reads as it did. -/
def pipeRunsUptoRow : OpenClaim := { program := "ytdjijnpcpbjfoaa", sum := "d48cd36ed66fd13dbfe8519cbd316684917a3e67186fced655b7b810718087b9", func := "cordon/cordonlaw9.PipeRuns", spec := "pipeRuns", apart := false, narrowed := true }
def PipeRunsUptoSaid : Prop := pipeRunsUptoRow.holds Try.pinned (OpenSpec.upto pipeRunsSpec)

/-- 'cordonlaw9.PipeTells', WHERE WHAT IT READS IS OF BULK AT MOST 1048576: true; the input reads as it did. -/
def pipeTellsUptoRow : OpenClaim := { program := "ytdjijnpcpbjfoaa", sum := "d48cd36ed66fd13dbfe8519cbd316684917a3e67186fced655b7b810718087b9", func := "cordon/cordonlaw9.PipeTells", spec := "pipeTells", apart := false, narrowed := true }
def PipeTellsUptoSaid : Prop := pipeTellsUptoRow.holds Try.pinned (OpenSpec.upto pipeTellsSpec)

/-- 'cordonlaw9.PipeOnly', WHERE WHAT IT READS IS OF BULK AT MOST 1048576: true; the input reads as it did. -/
def pipeOnlyUptoRow : OpenClaim := { program := "ytdjijnpcpbjfoaa", sum := "d48cd36ed66fd13dbfe8519cbd316684917a3e67186fced655b7b810718087b9", func := "cordon/cordonlaw9.PipeOnly", spec := "pipeOnly", apart := false, narrowed := true }
def PipeOnlyUptoSaid : Prop := pipeOnlyUptoRow.holds Try.pinned (OpenSpec.upto pipeOnlySpec)

/-- 'cordonlaw9.PipeEdges', WHERE WHAT IT READS IS OF BULK AT MOST 1048576: true; the input reads as it did. -/
def pipeEdgesUptoRow : OpenClaim := { program := "ytdjijnpcpbjfoaa", sum := "d48cd36ed66fd13dbfe8519cbd316684917a3e67186fced655b7b810718087b9", func := "cordon/cordonlaw9.PipeEdges", spec := "pipeEdges", apart := false, narrowed := true }
def PipeEdgesUptoSaid : Prop := pipeEdgesUptoRow.holds Try.pinned (OpenSpec.upto pipeEdgesSpec)

/-- 'cordonlaw9.PipeOps', WHERE WHAT IT READS IS OF BULK AT MOST 1048576: true; the input reads as it did. -/
def pipeOpsUptoRow : OpenClaim := { program := "ytdjijnpcpbjfoaa", sum := "d48cd36ed66fd13dbfe8519cbd316684917a3e67186fced655b7b810718087b9", func := "cordon/cordonlaw9.PipeOps", spec := "pipeOps", apart := false, narrowed := true }
def PipeOpsUptoSaid : Prop := pipeOpsUptoRow.holds Try.pinned (OpenSpec.upto pipeOpsSpec)

end Rows
end Go.Proofs.Ytdjijnpcpbjfoaa
