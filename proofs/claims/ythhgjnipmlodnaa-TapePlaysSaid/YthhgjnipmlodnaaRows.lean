/-
  No cell of these rows narrows 'for every input' (looked for: loops, veiled, ifaces, maps, wideKeys, modest, calm, conditions, laid).
  DERIVED. THE GIVEN ROWS OF THIS SEAT. 5 by the template 'for every input the law returns true; each argument reads behind the call as it read before'; 0 by the template 'total and deterministic' (their statements: YthhgjnipmlodnaaTotals.lean).
  GIVEN WITH THE SEED: the statements are not yours to turn. If you find one false, say at which input.
  Laid BY PROGRAM, IN A SANDBOX (cutbox-rows.mjs): the forced cells as the released guide's own fill.sh prints them over the translation a99990cc9c925917… (all of the seat's roots in one cut). By AI agents, Wed Nov 11 2026. No macro, syntax, notation, axiom, sorry.
-/
import Derived.Test.YthhgjnipmlodnaaChecked
import GoSem.Claim
import GoSem.ClaimJoined
import GoSem.ClaimMapViews
import Derived.JoinedTies
import Derived.KernelRfl
namespace Go.Proofs.Ythhgjnipmlodnaa
/- THE CELL 'sum', in the pinned program and in every row, IS THE sha256 OF THE DUMP (.gsa) THAT YthhgjnipmlodnaaProg.lean LOADS. Nothing in Lean hashes anything: it is a label: what it is worth is what the hold of that sum in a sandbox is worth. -/
noncomputable def Try.pinned : Pinned := { name := "ythhgjnipmlodnaa", sum := "a99990cc9c925917a33fe760c0749fb098e548aa9b9ba16c33bf388d6b49e5c3", checked := Try.checked }
namespace Rows
def none {H : Type} : Left H := { results := [], args := [] }

/-- 'cordonlaw22.TapeRuns': WHATEVER THE INPUT: true; the input reads as it did. -/
def tapeRunsSpec : ChangeSpec := { name := "tapeRuns", fn := fun _ => fun
  | [] => { results := [.lit (.bool true)], args := [] }
  | _ => none }
def tapeRunsRow : OpenClaim := { program := "ythhgjnipmlodnaa", sum := "a99990cc9c925917a33fe760c0749fb098e548aa9b9ba16c33bf388d6b49e5c3", func := "cordon/cordonlaw22.TapeRuns", spec := "tapeRuns", apart := false }
def TapeRunsSaid : Prop := tapeRunsRow.holds Try.pinned (OpenSpec.ofChange tapeRunsSpec)

/-- ITS FALSE NEIGHBOUR: 'it returns false'. Refute it at one input. -/
def tapeRunsWrong : ChangeSpec := { name := "tapeRuns", fn := fun _ => fun
  | [] => { results := [.lit (.bool false)], args := [] }
  | _ => none }
def TapeRunsWrongFalsely : Prop := tapeRunsRow.holds Try.pinned (OpenSpec.ofChange tapeRunsWrong)

/-- 'cordonlaw22.TapeFuse': WHATEVER THE INPUT: true; the input reads as it did. -/
def tapeFuseSpec : ChangeSpec := { name := "tapeFuse", fn := fun _ => fun
  | [d1, d2, d3] => { results := [.lit (.bool true)], args := [d1, d2, d3] }
  | _ => none }
def tapeFuseRow : OpenClaim := { program := "ythhgjnipmlodnaa", sum := "a99990cc9c925917a33fe760c0749fb098e548aa9b9ba16c33bf388d6b49e5c3", func := "cordon/cordonlaw22.TapeFuse", spec := "tapeFuse", apart := false }
def TapeFuseSaid : Prop := tapeFuseRow.holds Try.pinned (OpenSpec.ofChange tapeFuseSpec)

/-- ITS FALSE NEIGHBOUR: 'it returns false'. Refute it at one input. -/
def tapeFuseWrong : ChangeSpec := { name := "tapeFuse", fn := fun _ => fun
  | [d1, d2, d3] => { results := [.lit (.bool false)], args := [d1, d2, d3] }
  | _ => none }
def TapeFuseWrongFalsely : Prop := tapeFuseRow.holds Try.pinned (OpenSpec.ofChange tapeFuseWrong)

/-- 'cordonlaw22.TapeTwins': WHATEVER THE INPUT: true; the input reads as it did. -/
def tapeTwinsSpec : ChangeSpec := { name := "tapeTwins", fn := fun _ => fun
  | [d1, d2] => { results := [.lit (.bool true)], args := [d1, d2] }
  | _ => none }
def tapeTwinsRow : OpenClaim := { program := "ythhgjnipmlodnaa", sum := "a99990cc9c925917a33fe760c0749fb098e548aa9b9ba16c33bf388d6b49e5c3", func := "cordon/cordonlaw22.TapeTwins", spec := "tapeTwins", apart := false }
def TapeTwinsSaid : Prop := tapeTwinsRow.holds Try.pinned (OpenSpec.ofChange tapeTwinsSpec)

/-- ITS FALSE NEIGHBOUR: 'it returns false'. Refute it at one input. -/
def tapeTwinsWrong : ChangeSpec := { name := "tapeTwins", fn := fun _ => fun
  | [d1, d2] => { results := [.lit (.bool false)], args := [d1, d2] }
  | _ => none }
def TapeTwinsWrongFalsely : Prop := tapeTwinsRow.holds Try.pinned (OpenSpec.ofChange tapeTwinsWrong)

/-- 'cordonlaw22.TapeKeeps': WHATEVER THE INPUT: true; the input reads as it did. -/
def tapeKeepsSpec : ChangeSpec := { name := "tapeKeeps", fn := fun _ => fun
  | [d1, d2, d3, d4] => { results := [.lit (.bool true)], args := [d1, d2, d3, d4] }
  | _ => none }
def tapeKeepsRow : OpenClaim := { program := "ythhgjnipmlodnaa", sum := "a99990cc9c925917a33fe760c0749fb098e548aa9b9ba16c33bf388d6b49e5c3", func := "cordon/cordonlaw22.TapeKeeps", spec := "tapeKeeps", apart := false }
def TapeKeepsSaid : Prop := tapeKeepsRow.holds Try.pinned (OpenSpec.ofChange tapeKeepsSpec)

/-- ITS FALSE NEIGHBOUR: 'it returns false'. Refute it at one input. -/
def tapeKeepsWrong : ChangeSpec := { name := "tapeKeeps", fn := fun _ => fun
  | [d1, d2, d3, d4] => { results := [.lit (.bool false)], args := [d1, d2, d3, d4] }
  | _ => none }
def TapeKeepsWrongFalsely : Prop := tapeKeepsRow.holds Try.pinned (OpenSpec.ofChange tapeKeepsWrong)

/-- 'cordonlaw22.TapePlays': WHATEVER THE INPUT: true; the input reads as it did. -/
def tapePlaysSpec : ChangeSpec := { name := "tapePlays", fn := fun _ => fun
  | [d] => { results := [.lit (.bool true)], args := [d] }
  | _ => none }
def tapePlaysRow : OpenClaim := { program := "ythhgjnipmlodnaa", sum := "a99990cc9c925917a33fe760c0749fb098e548aa9b9ba16c33bf388d6b49e5c3", func := "cordon/cordonlaw22.TapePlays", spec := "tapePlays", apart := false }
def TapePlaysSaid : Prop := tapePlaysRow.holds Try.pinned (OpenSpec.ofChange tapePlaysSpec)

/-- ITS FALSE NEIGHBOUR: 'it returns false'. Refute it at one input. -/
def tapePlaysWrong : ChangeSpec := { name := "tapePlays", fn := fun _ => fun
  | [d] => { results := [.lit (.bool false)], args := [d] }
  | _ => none }
def TapePlaysWrongFalsely : Prop := tapePlaysRow.holds Try.pinned (OpenSpec.ofChange tapePlaysWrong)

/- THE SECOND FORM. 'bulk': how many values and letters a reading holds, each counted each time it is reached (what is shared counts as often as it is met; a slice's spare places count too). A statement '..UptoSaid' is the law's where the arguments, and the package variables that the reading takes, are together of bulk at most 1048576: NARROWER than '..Said'. Prove '..Said' where nothing that the law and all that it calls make is longer than what came in: it says more and counts as full. Else prove '..UptoSaid'. A law counts once. -/
mutual
def uptoBulk {H : Type} : DataW H → Nat
  | .lit (.string bytes) => bytes.length + 1
  | .lit _ => 1
  | .nil => 1
  | .ptr d => uptoBulk d + 1
  | .slice elems spare => uptoBulkAll elems + uptoBulkAll spare + 1
  | .agg parts => uptoBulkAll parts + 1
  | .iface _ d => uptoBulk d + 1
  | .map entries => uptoBulkEntries entries + 1
  | .held _ => 1
def uptoBulkAll {H : Type} : List (DataW H) → Nat
  | [] => 0
  | d :: r => uptoBulk d + uptoBulkAll r
def uptoBulkEntries {H : Type} : List (Lit × DataW H) → Nat
  | [] => 0
  | x :: r => uptoBulkEntry x + uptoBulkEntries r
def uptoBulkEntry {H : Type} : Lit × DataW H → Nat
  | (.string bytes, d) => bytes.length + uptoBulk d + 1
  | (_, d) => uptoBulk d + 1
 end
def uptoSmall : (H : Type) → List (DataW H) → Bool := fun _ ds => decide (uptoBulkAll ds ≤ 1048576)
def OpenSpec.upto (s : _root_.Go.ChangeSpec) : _root_.Go.OpenSpec := { _root_.Go.OpenSpec.ofChange s with cond := some uptoSmall }

/-- 'cordonlaw22.TapeRuns', WHERE WHAT IT READS IS OF BULK AT MOST 1048576: true; the input reads as it did. -/
def tapeRunsUptoRow : OpenClaim := { program := "ythhgjnipmlodnaa", sum := "a99990cc9c925917a33fe760c0749fb098e548aa9b9ba16c33bf388d6b49e5c3", func := "cordon/cordonlaw22.TapeRuns", spec := "tapeRuns", apart := false, narrowed := true }
def TapeRunsUptoSaid : Prop := tapeRunsUptoRow.holds Try.pinned (OpenSpec.upto tapeRunsSpec)

/-- 'cordonlaw22.TapeFuse', WHERE WHAT IT READS IS OF BULK AT MOST 1048576: true; the input reads as it did. -/
def tapeFuseUptoRow : OpenClaim := { program := "ythhgjnipmlodnaa", sum := "a99990cc9c925917a33fe760c0749fb098e548aa9b9ba16c33bf388d6b49e5c3", func := "cordon/cordonlaw22.TapeFuse", spec := "tapeFuse", apart := false, narrowed := true }
def TapeFuseUptoSaid : Prop := tapeFuseUptoRow.holds Try.pinned (OpenSpec.upto tapeFuseSpec)

/-- 'cordonlaw22.TapeTwins', WHERE WHAT IT READS IS OF BULK AT MOST 1048576: true; the input reads as it did. -/
def tapeTwinsUptoRow : OpenClaim := { program := "ythhgjnipmlodnaa", sum := "a99990cc9c925917a33fe760c0749fb098e548aa9b9ba16c33bf388d6b49e5c3", func := "cordon/cordonlaw22.TapeTwins", spec := "tapeTwins", apart := false, narrowed := true }
def TapeTwinsUptoSaid : Prop := tapeTwinsUptoRow.holds Try.pinned (OpenSpec.upto tapeTwinsSpec)

/-- 'cordonlaw22.TapeKeeps', WHERE WHAT IT READS IS OF BULK AT MOST 1048576: true; the input reads as it did. -/
def tapeKeepsUptoRow : OpenClaim := { program := "ythhgjnipmlodnaa", sum := "a99990cc9c925917a33fe760c0749fb098e548aa9b9ba16c33bf388d6b49e5c3", func := "cordon/cordonlaw22.TapeKeeps", spec := "tapeKeeps", apart := false, narrowed := true }
def TapeKeepsUptoSaid : Prop := tapeKeepsUptoRow.holds Try.pinned (OpenSpec.upto tapeKeepsSpec)

/-- 'cordonlaw22.TapePlays', WHERE WHAT IT READS IS OF BULK AT MOST 1048576: true; the input reads as it did. -/
def tapePlaysUptoRow : OpenClaim := { program := "ythhgjnipmlodnaa", sum := "a99990cc9c925917a33fe760c0749fb098e548aa9b9ba16c33bf388d6b49e5c3", func := "cordon/cordonlaw22.TapePlays", spec := "tapePlays", apart := false, narrowed := true }
def TapePlaysUptoSaid : Prop := tapePlaysUptoRow.holds Try.pinned (OpenSpec.upto tapePlaysSpec)

end Rows
end Go.Proofs.Ythhgjnipmlodnaa
