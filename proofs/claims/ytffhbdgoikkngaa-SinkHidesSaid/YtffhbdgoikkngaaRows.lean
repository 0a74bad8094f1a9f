/-
  No cell of these rows narrows 'for every input' (looked for: loops, veiled, ifaces, maps, wideKeys, modest, calm, conditions, laid).
  DERIVED. THE GIVEN ROWS OF THIS SEAT. 5 by the template 'for every input the law returns true; each argument reads behind the call as it read before'; 0 by the template 'total and deterministic' (their statements: YtffhbdgoikkngaaTotals.lean).
  GIVEN WITH THE SEED: the statements are not yours to turn. If you find one false, say at which input.
  Laid BY PROGRAM, IN A SANDBOX (cutbox-rows.mjs): the forced cells as the released guide's own fill.sh prints them over the translation 382b5d90e6764d9a… (all of the seat's roots in one cut). By AI agents, Wed Nov 11 2026. No macro, syntax, notation, axiom, sorry.
-/
import Derived.Test.YtffhbdgoikkngaaChecked
import GoSem.Claim
import GoSem.ClaimJoined
import GoSem.ClaimMapViews
import Derived.JoinedTies
import Derived.KernelRfl
namespace Go.Proofs.Ytffhbdgoikkngaa
/- THE CELL 'sum', in the pinned program and in every row, IS THE sha256 OF THE DUMP (.gsa) THAT YtffhbdgoikkngaaProg.lean LOADS. Nothing in Lean hashes anything: it is a label: what it is worth is what the hold of that sum in a sandbox is worth. -/
noncomputable def Try.pinned : Pinned := { name := "ytffhbdgoikkngaa", sum := "382b5d90e6764d9a5be2be101b7ed6cf09e28b958caa4b2245559be8ea58966c", checked := Try.checked }
namespace Rows
def none {H : Type} : Left H := { results := [], args := [] }

/-- 'cordonlaw17.SinkRuns': WHATEVER THE INPUT: true; the input reads as it did. -/
def sinkRunsSpec : ChangeSpec := { name := "sinkRuns", fn := fun _ => fun
  | [] => { results := [.lit (.bool true)], args := [] }
  | _ => none }
def sinkRunsRow : OpenClaim := { program := "ytffhbdgoikkngaa", sum := "382b5d90e6764d9a5be2be101b7ed6cf09e28b958caa4b2245559be8ea58966c", func := "cordon/cordonlaw17.SinkRuns", spec := "sinkRuns", apart := false }
def SinkRunsSaid : Prop := sinkRunsRow.holds Try.pinned (OpenSpec.ofChange sinkRunsSpec)

/-- ITS FALSE NEIGHBOUR: 'it returns false'. Refute it at one input. -/
def sinkRunsWrong : ChangeSpec := { name := "sinkRuns", fn := fun _ => fun
  | [] => { results := [.lit (.bool false)], args := [] }
  | _ => none }
def SinkRunsWrongFalsely : Prop := sinkRunsRow.holds Try.pinned (OpenSpec.ofChange sinkRunsWrong)

/-- 'cordonlaw17.SinkTells': WHATEVER THE INPUT: true; the input reads as it did. -/
def sinkTellsSpec : ChangeSpec := { name := "sinkTells", fn := fun _ => fun
  | [d1, d2, d3, d4] => { results := [.lit (.bool true)], args := [d1, d2, d3, d4] }
  | _ => none }
def sinkTellsRow : OpenClaim := { program := "ytffhbdgoikkngaa", sum := "382b5d90e6764d9a5be2be101b7ed6cf09e28b958caa4b2245559be8ea58966c", func := "cordon/cordonlaw17.SinkTells", spec := "sinkTells", apart := false }
def SinkTellsSaid : Prop := sinkTellsRow.holds Try.pinned (OpenSpec.ofChange sinkTellsSpec)

/-- ITS FALSE NEIGHBOUR: 'it returns false'. Refute it at one input. -/
def sinkTellsWrong : ChangeSpec := { name := "sinkTells", fn := fun _ => fun
  | [d1, d2, d3, d4] => { results := [.lit (.bool false)], args := [d1, d2, d3, d4] }
  | _ => none }
def SinkTellsWrongFalsely : Prop := sinkTellsRow.holds Try.pinned (OpenSpec.ofChange sinkTellsWrong)

/-- 'cordonlaw17.SinkHides': WHATEVER THE INPUT: true; the input reads as it did. -/
def sinkHidesSpec : ChangeSpec := { name := "sinkHides", fn := fun _ => fun
  | [d1, d2, d3, d4] => { results := [.lit (.bool true)], args := [d1, d2, d3, d4] }
  | _ => none }
def sinkHidesRow : OpenClaim := { program := "ytffhbdgoikkngaa", sum := "382b5d90e6764d9a5be2be101b7ed6cf09e28b958caa4b2245559be8ea58966c", func := "cordon/cordonlaw17.SinkHides", spec := "sinkHides", apart := false }
def SinkHidesSaid : Prop := sinkHidesRow.holds Try.pinned (OpenSpec.ofChange sinkHidesSpec)

/-- ITS FALSE NEIGHBOUR: 'it returns false'. Refute it at one input. -/
def sinkHidesWrong : ChangeSpec := { name := "sinkHides", fn := fun _ => fun
  | [d1, d2, d3, d4] => { results := [.lit (.bool false)], args := [d1, d2, d3, d4] }
  | _ => none }
def SinkHidesWrongFalsely : Prop := sinkHidesRow.holds Try.pinned (OpenSpec.ofChange sinkHidesWrong)

/-- 'cordonlaw17.SinkEpochs': WHATEVER THE INPUT: true; the input reads as it did. -/
def sinkEpochsSpec : ChangeSpec := { name := "sinkEpochs", fn := fun _ => fun
  | [d1, d2, d3] => { results := [.lit (.bool true)], args := [d1, d2, d3] }
  | _ => none }
def sinkEpochsRow : OpenClaim := { program := "ytffhbdgoikkngaa", sum := "382b5d90e6764d9a5be2be101b7ed6cf09e28b958caa4b2245559be8ea58966c", func := "cordon/cordonlaw17.SinkEpochs", spec := "sinkEpochs", apart := false }
def SinkEpochsSaid : Prop := sinkEpochsRow.holds Try.pinned (OpenSpec.ofChange sinkEpochsSpec)

/-- ITS FALSE NEIGHBOUR: 'it returns false'. Refute it at one input. -/
def sinkEpochsWrong : ChangeSpec := { name := "sinkEpochs", fn := fun _ => fun
  | [d1, d2, d3] => { results := [.lit (.bool false)], args := [d1, d2, d3] }
  | _ => none }
def SinkEpochsWrongFalsely : Prop := sinkEpochsRow.holds Try.pinned (OpenSpec.ofChange sinkEpochsWrong)

/-- 'cordonlaw17.SinkOutside': WHATEVER THE INPUT: true; the input reads as it did. -/
def sinkOutsideSpec : ChangeSpec := { name := "sinkOutside", fn := fun _ => fun
  | [d1, d2, d3, d4] => { results := [.lit (.bool true)], args := [d1, d2, d3, d4] }
  | _ => none }
def sinkOutsideRow : OpenClaim := { program := "ytffhbdgoikkngaa", sum := "382b5d90e6764d9a5be2be101b7ed6cf09e28b958caa4b2245559be8ea58966c", func := "cordon/cordonlaw17.SinkOutside", spec := "sinkOutside", apart := false }
def SinkOutsideSaid : Prop := sinkOutsideRow.holds Try.pinned (OpenSpec.ofChange sinkOutsideSpec)

/-- ITS FALSE NEIGHBOUR: 'it returns false'. Refute it at one input. -/
def sinkOutsideWrong : ChangeSpec := { name := "sinkOutside", fn := fun _ => fun
  | [d1, d2, d3, d4] => { results := [.lit (.bool false)], args := [d1, d2, d3, d4] }
  | _ => none }
def SinkOutsideWrongFalsely : Prop := sinkOutsideRow.holds Try.pinned (OpenSpec.ofChange sinkOutsideWrong)

/- THE SECOND FORM. 'bulk': how many values and letters a reading holds, each counted each time it is reached (what is shared counts as often as it is met; a slice's spare places count too). A statement '..UptoSaid' is the law's where the arguments, and the package variables that the reading takes, are together of bulk at most 1048576: NARROWER than '..Said'. Prove '..Said' where nothing that the law and all that it calls make is longer than what came in: it says more and counts as full. Else prove '..UptoSaid'. A law counts once. -/
mutual
def uptoBulk {H : Type} : DataW H → Nat
  | .lit (.string bytes) => bytes.length + 1
  | .lit _ => 1
  | .nil => 1
  | .ptr d => uptoBulk d + 1
  | .slice elems spare => uptoBulkAll elems + uptoBulkAll spare + 1
  | .agg parts => uptoBulkAll parts + 1
  | .iface _ d => uptoBulk d + 1
  | .map entries => uptoBulkEntries entries + 1
  | .held _ => 1
def uptoBulkAll {H : Type} : List (DataW H) → Nat
  | [] => 0
  | d :: r => uptoBulk d + uptoBulkAll r
def uptoBulkEntries {H : Type} : List (Lit × DataW H) → Nat
  | [] => 0
  | x :: r => uptoBulkEntry x + uptoBulkEntries r
def uptoBulkEntry {H : Type} : Lit × DataW H → Nat
  | (.string bytes, d) => bytes.length + uptoBulk d + 1
  | (_, d) => uptoBulk d + 1
 end
def uptoSmall : (H : Type) → List (DataW H) → Bool := fun _ ds => decide (uptoBulkAll ds ≤ 1048576)
def OpenSpec.upto (s : _root_.Go.ChangeSpec) : _root_.Go.OpenSpec := { _root_.Go.OpenSpec.ofChange s with cond := some uptoSmall }

/-- 'cordonlaw17.SinkRuns', WHERE WHAT IT READS IS OF BULK AT MOST 1048576: true; the input reads as it did. -/
def sinkRunsUptoRow : OpenClaim := { program := "ytffhbdgoikkngaa", sum := "382b5d90e6764d9a5be2be101b7ed6cf09e28b958caa4b2245559be8ea58966c", func := "cordon/cordonlaw17.SinkRuns", spec := "sinkRuns", apart := false, narrowed := true }
def SinkRunsUptoSaid : Prop := sinkRunsUptoRow.holds Try.pinned (OpenSpec.upto sinkRunsSpec)

/-- 'cordonlaw17.SinkTells', WHERE WHAT IT READS IS OF BULK AT MOST 1048576: true; the input reads as it did. -/
def sinkTellsUptoRow : OpenClaim := { program := "ytffhbdgoikkngaa", sum := "382b5d90e6764d9a5be2be101b7ed6cf09e28b958caa4b2245559be8ea58966c", func := "cordon/cordonlaw17.SinkTells", spec := "sinkTells", apart := false, narrowed := true }
def SinkTellsUptoSaid : Prop := sinkTellsUptoRow.holds Try.pinned (OpenSpec.upto sinkTellsSpec)

/-- 'cordonlaw17.SinkHides', WHERE WHAT IT READS IS OF BULK AT MOST 1048576: true; the input reads as it did. -/
def sinkHidesUptoRow : OpenClaim := { program := "ytffhbdgoikkngaa", sum := "382b5d90e6764d9a5be2be101b7ed6cf09e28b958caa4b2245559be8ea58966c", func := "cordon/cordonlaw17.SinkHides", spec := "sinkHides", apart := false, narrowed := true }
def SinkHidesUptoSaid : Prop := sinkHidesUptoRow.holds Try.pinned (OpenSpec.upto sinkHidesSpec)

/-- 'cordonlaw17.SinkEpochs', WHERE WHAT IT READS IS OF BULK AT MOST 1048576: true; the input reads as it did. -/
def sinkEpochsUptoRow : OpenClaim := { program := "ytffhbdgoikkngaa", sum := "382b5d90e6764d9a5be2be101b7ed6cf09e28b958caa4b2245559be8ea58966c", func := "cordon/cordonlaw17.SinkEpochs", spec := "sinkEpochs", apart := false, narrowed := true }
def SinkEpochsUptoSaid : Prop := sinkEpochsUptoRow.holds Try.pinned (OpenSpec.upto sinkEpochsSpec)

/-- 'cordonlaw17.SinkOutside', WHERE WHAT IT READS IS OF BULK AT MOST 1048576: true; the input reads as it did. -/
def sinkOutsideUptoRow : OpenClaim := { program := "ytffhbdgoikkngaa", sum := "382b5d90e6764d9a5be2be101b7ed6cf09e28b958caa4b2245559be8ea58966c", func := "cordon/cordonlaw17.SinkOutside", spec := "sinkOutside", apart := false, narrowed := true }
def SinkOutsideUptoSaid : Prop := sinkOutsideUptoRow.holds Try.pinned (OpenSpec.upto sinkOutsideSpec)

end Rows
end Go.Proofs.Ytffhbdgoikkngaa
