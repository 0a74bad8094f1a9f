/-
  No cell of these rows narrows 'for every input' (looked for: loops, veiled, ifaces, maps, wideKeys, modest, calm, conditions, laid).
  DERIVED. THE GIVEN ROWS OF THIS SEAT. 4 by the template 'for every input the law returns true; each argument reads behind the call as it read before'; 0 by the template 'total and deterministic' (their statements: YtgipdhehgkneeaaTotals.lean).
  GIVEN WITH THE SEED: the statements are not yours to turn. If you find one false, say at which input.
  Laid BY PROGRAM, IN A SANDBOX (cutbox-rows.mjs): the forced cells as the released guide's own fill.sh prints them over the translation cdacab4e7d1b06f6… (all of the seat's roots in one cut). By AI agents, Wed Nov 11 2026. No macro, syntax, notation, axiom, sorry.
-/
import Derived.Test.YtgipdhehgkneeaaChecked
import GoSem.Claim
import GoSem.ClaimJoined
import GoSem.ClaimMapViews
import Derived.JoinedTies
import Derived.KernelRfl
namespace Go.Proofs.Ytgipdhehgkneeaa
/- THE CELL 'sum', in the pinned program and in every row, IS THE sha256 OF THE DUMP (.gsa) THAT YtgipdhehgkneeaaProg.lean LOADS. Nothing in Lean hashes anything: it is a label: what it is worth is what the hold of that sum in a sandbox is worth. -/
noncomputable def Try.pinned : Pinned := { name := "ytgipdhehgkneeaa", sum := "cdacab4e7d1b06f6ec2ca264ecfde3bbb880340ce2257b9f7e5b235e408e7917", checked := Try.checked }
namespace Rows
def none {H : Type} : Left H := { results := [], args := [] }

/-- 'cordonlaw16.ReachRuns': WHATEVER THE INPUT: true; the input reads as it did. -/
def reachRunsSpec : ChangeSpec := { name := "reachRuns", fn := fun _ => fun
  | [] => { results := [.lit (.bool true)], args := [] }
  | _ => none }
def reachRunsRow : OpenClaim := { program := "ytgipdhehgkneeaa", sum := "cdacab4e7d1b06f6ec2ca264ecfde3bbb880340ce2257b9f7e5b235e408e7917", func := "cordon/cordonlaw16.ReachRuns", spec := "reachRuns", unfollowed := true, recurses := true, apart := false }
def ReachRunsSaid : Prop := reachRunsRow.holds Try.pinned (OpenSpec.ofChange reachRunsSpec)

/-- ITS FALSE NEIGHBOUR: 'it returns false'. Refute it at one input. -/
def reachRunsWrong : ChangeSpec := { name := "reachRuns", fn := fun _ => fun
  | [] => { results := [.lit (.bool false)], args := [] }
  | _ => none }
def ReachRunsWrongFalsely : Prop := reachRunsRow.holds Try.pinned (OpenSpec.ofChange reachRunsWrong)

/-- 'cordonlaw16.ReachTells': WHATEVER THE INPUT: true; the input reads as it did. -/
def reachTellsSpec : ChangeSpec := { name := "reachTells", fn := fun _ => fun
  | [d1, d2, d3, d4, d5, d6] => { results := [.lit (.bool true)], args := [d1, d2, d3, d4, d5, d6] }
  | _ => none }
def reachTellsRow : OpenClaim := { program := "ytgipdhehgkneeaa", sum := "cdacab4e7d1b06f6ec2ca264ecfde3bbb880340ce2257b9f7e5b235e408e7917", func := "cordon/cordonlaw16.ReachTells", spec := "reachTells", unfollowed := true, recurses := true, apart := false }
def ReachTellsSaid : Prop := reachTellsRow.holds Try.pinned (OpenSpec.ofChange reachTellsSpec)

/-- ITS FALSE NEIGHBOUR: 'it returns false'. Refute it at one input. -/
def reachTellsWrong : ChangeSpec := { name := "reachTells", fn := fun _ => fun
  | [d1, d2, d3, d4, d5, d6] => { results := [.lit (.bool false)], args := [d1, d2, d3, d4, d5, d6] }
  | _ => none }
def ReachTellsWrongFalsely : Prop := reachTellsRow.holds Try.pinned (OpenSpec.ofChange reachTellsWrong)

/-- 'cordonlaw16.ReachLess': WHATEVER THE INPUT: true; the input reads as it did. -/
def reachLessSpec : ChangeSpec := { name := "reachLess", fn := fun _ => fun
  | [d1, d2, d3, d4] => { results := [.lit (.bool true)], args := [d1, d2, d3, d4] }
  | _ => none }
def reachLessRow : OpenClaim := { program := "ytgipdhehgkneeaa", sum := "cdacab4e7d1b06f6ec2ca264ecfde3bbb880340ce2257b9f7e5b235e408e7917", func := "cordon/cordonlaw16.ReachLess", spec := "reachLess", unfollowed := true, recurses := true, apart := false }
def ReachLessSaid : Prop := reachLessRow.holds Try.pinned (OpenSpec.ofChange reachLessSpec)

/-- ITS FALSE NEIGHBOUR: 'it returns false'. Refute it at one input. -/
def reachLessWrong : ChangeSpec := { name := "reachLess", fn := fun _ => fun
  | [d1, d2, d3, d4] => { results := [.lit (.bool false)], args := [d1, d2, d3, d4] }
  | _ => none }
def ReachLessWrongFalsely : Prop := reachLessRow.holds Try.pinned (OpenSpec.ofChange reachLessWrong)

/-- 'cordonlaw16.ReachEdges': WHATEVER THE INPUT: true; the input reads as it did. -/
def reachEdgesSpec : ChangeSpec := { name := "reachEdges", fn := fun _ => fun
  | [d1, d2, d3, d4] => { results := [.lit (.bool true)], args := [d1, d2, d3, d4] }
  | _ => none }
def reachEdgesRow : OpenClaim := { program := "ytgipdhehgkneeaa", sum := "cdacab4e7d1b06f6ec2ca264ecfde3bbb880340ce2257b9f7e5b235e408e7917", func := "cordon/cordonlaw16.ReachEdges", spec := "reachEdges", unfollowed := true, recurses := true, apart := false }
def ReachEdgesSaid : Prop := reachEdgesRow.holds Try.pinned (OpenSpec.ofChange reachEdgesSpec)

/-- ITS FALSE NEIGHBOUR: 'it returns false'. Refute it at one input. -/
def reachEdgesWrong : ChangeSpec := { name := "reachEdges", fn := fun _ => fun
  | [d1, d2, d3, d4] => { results := [.lit (.bool false)], args := [d1, d2, d3, d4] }
  | _ => none }
def ReachEdgesWrongFalsely : Prop := reachEdgesRow.holds Try.pinned (OpenSpec.ofChange reachEdgesWrong)

/- THE SECOND FORM. 'bulk': how many values and letters a reading holds, each counted each time it is reached (what is shared counts as often as it is met; a slice's spare places count too). A statement '..UptoSaid' is the law's where the arguments, and the package variables that the reading takes, are together of bulk at most 1048576: NARROWER than '..Said'. Prove '..Said' where nothing that the law and all that it calls make is longer than what came in: it says more and counts as full. Else prove '..UptoSaid'. A law counts once. -/
mutual
def uptoBulk {H : Type} : DataW H → Nat
  | .lit (.string bytes) => bytes.length + 1
  | .lit _ => 1
  | .nil => 1
  | .ptr d => uptoBulk d + 1
  | .slice elems spare => uptoBulkAll elems + uptoBulkAll spare + 1
  | .agg parts => uptoBulkAll parts + 1
  | .iface _ d => uptoBulk d + 1
  | .map entries => uptoBulkEntries entries + 1
  | .held _ => 1
def uptoBulkAll {H : Type} : List (DataW H) → Nat
  | [] => 0
  | d :: r => uptoBulk d + uptoBulkAll r
def uptoBulkEntries {H : Type} : List (Lit × DataW H) → Nat
  | [] => 0
  | x :: r => uptoBulkEntry x + uptoBulkEntries r
def uptoBulkEntry {H : Type} : Lit × DataW H → Nat
  | (.string bytes, d) => bytes.length + uptoBulk d + 1
  | (_, d) => uptoBulk d + 1
 end
def uptoSmall : (H : Type) → List (DataW H) → Bool := fun _ ds => decide (uptoBulkAll ds ≤ 1048576)
def OpenSpec.upto (s : _root_.Go.ChangeSpec) : _root_.Go.OpenSpec := { _root_.Go.OpenSpec.ofChange s with cond := some uptoSmall }

/-- 'cordonlaw16.ReachRuns', WHERE WHAT IT READS IS OF BULK AT MOST 1048576: true; the input reads as it did. -/
def reachRunsUptoRow : OpenClaim := { program := "ytgipdhehgkneeaa", sum := "cdacab4e7d1b06f6ec2ca264ecfde3bbb880340ce2257b9f7e5b235e408e7917", func := "cordon/cordonlaw16.ReachRuns", spec := "reachRuns", unfollowed := true, recurses := true, apart := false, narrowed := true }
def ReachRunsUptoSaid : Prop := reachRunsUptoRow.holds Try.pinned (OpenSpec.upto reachRunsSpec)

/-- 'cordonlaw16.ReachTells', WHERE WHAT IT READS IS OF BULK AT MOST 1048576: true; the input reads as it did. -/
def reachTellsUptoRow : OpenClaim := { program := "ytgipdhehgkneeaa", sum := "cdacab4e7d1b06f6ec2ca264ecfde3bbb880340ce2257b9f7e5b235e408e7917", func := "cordon/cordonlaw16.ReachTells", spec := "reachTells", unfollowed := true, recurses := true, apart := false, narrowed := true }
def ReachTellsUptoSaid : Prop := reachTellsUptoRow.holds Try.pinned (OpenSpec.upto reachTellsSpec)

/-- 'cordonlaw16.ReachLess', WHERE WHAT IT READS IS OF BULK AT MOST 1048576: true; the input reads as it did. -/
def reachLessUptoRow : OpenClaim := { program := "ytgipdhehgkneeaa", sum := "cdacab4e7d1b06f6ec2ca264ecfde3bbb880340ce2257b9f7e5b235e408e7917", func := "cordon/cordonlaw16.ReachLess", spec := "reachLess", unfollowed := true, recurses := true, apart := false, narrowed := true }
def ReachLessUptoSaid : Prop := reachLessUptoRow.holds Try.pinned (OpenSpec.upto reachLessSpec)

/-- 'cordonlaw16.ReachEdges', WHERE WHAT IT READS IS OF BULK AT MOST 1048576: true; the input reads as it did. -/
def reachEdgesUptoRow : OpenClaim := { program := "ytgipdhehgkneeaa", sum := "cdacab4e7d1b06f6ec2ca264ecfde3bbb880340ce2257b9f7e5b235e408e7917", func := "cordon/cordonlaw16.ReachEdges", spec := "reachEdges", unfollowed := true, recurses := true, apart := false, narrowed := true }
def ReachEdgesUptoSaid : Prop := reachEdgesUptoRow.holds Try.pinned (OpenSpec.upto reachEdgesSpec)

end Rows
end Go.Proofs.Ytgipdhehgkneeaa
