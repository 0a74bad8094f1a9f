/-
  No cell of these rows narrows 'for every input' (looked for: loops, veiled, ifaces, maps, wideKeys, modest, calm, conditions, laid).
  DERIVED. THE GIVEN ROWS OF THIS SEAT. 4 by the template 'for every input the law returns true; each argument reads behind the call as it read before'; 0 by the template 'total and deterministic' (their statements: YtliajhikhmgbjaaTotals.lean).
  GIVEN WITH THE SEED: the statements are not yours to turn. If you find one false, say at which input.
  Laid BY PROGRAM, IN A SANDBOX (cutbox-rows.mjs): the forced cells as the released guide's own fill.sh prints them over the translation 66ee55eaeb262976… (all of the seat's roots in one cut). By AI agents, Wed Nov 11 2026. No macro, syntax, notation, axiom, sorry.
-/
import Derived.Test.YtliajhikhmgbjaaChecked
import GoSem.Claim
import GoSem.ClaimJoined
import GoSem.ClaimMapViews
import Derived.JoinedTies
import Derived.KernelRfl
namespace Go.Proofs.Ytliajhikhmgbjaa
/- THE CELL 'sum', in the pinned program and in every row, IS THE sha256 OF THE DUMP (.gsa) THAT YtliajhikhmgbjaaProg.lean LOADS. Nothing in Lean hashes anything: it is a label: what it is worth is what the hold of that sum in a sandbox is worth. -/
noncomputable def Try.pinned : Pinned := { name := "ytliajhikhmgbjaa", sum := "66ee55eaeb2629769c3fd50bba200b74be803df323c1bf5662bad7f58d094b42", checked := Try.checked }
namespace Rows
def none {H : Type} : Left H := { results := [], args := [] }

/-- 'cordonlaw18.BoardRuns': WHATEVER THE INPUT: true; the input reads as it did. -/
def boardRunsSpec : ChangeSpec := { name := "boardRuns", fn := fun _ => fun
  | [] => { results := [.lit (.bool true)], args := [] }
  | _ => none }
def boardRunsRow : OpenClaim := { program := "ytliajhikhmgbjaa", sum := "66ee55eaeb2629769c3fd50bba200b74be803df323c1bf5662bad7f58d094b42", func := "cordon/cordonlaw18.BoardRuns", spec := "boardRuns", apart := false }
def BoardRunsSaid : Prop := boardRunsRow.holds Try.pinned (OpenSpec.ofChange boardRunsSpec)

/-- ITS FALSE NEIGHBOUR: 'it returns false'. Refute it at one input. -/
def boardRunsWrong : ChangeSpec := { name := "boardRuns", fn := fun _ => fun
  | [] => { results := [.lit (.bool false)], args := [] }
  | _ => none }
def BoardRunsWrongFalsely : Prop := boardRunsRow.holds Try.pinned (OpenSpec.ofChange boardRunsWrong)

/-- 'cordonlaw18.BoardParts': WHATEVER THE INPUT: true; the input reads as it did. -/
def boardPartsSpec : ChangeSpec := { name := "boardParts", fn := fun _ => fun
  | [d1, d2, d3, d4] => { results := [.lit (.bool true)], args := [d1, d2, d3, d4] }
  | _ => none }
def boardPartsRow : OpenClaim := { program := "ytliajhikhmgbjaa", sum := "66ee55eaeb2629769c3fd50bba200b74be803df323c1bf5662bad7f58d094b42", func := "cordon/cordonlaw18.BoardParts", spec := "boardParts", apart := false }
def BoardPartsSaid : Prop := boardPartsRow.holds Try.pinned (OpenSpec.ofChange boardPartsSpec)

/-- ITS FALSE NEIGHBOUR: 'it returns false'. Refute it at one input. -/
def boardPartsWrong : ChangeSpec := { name := "boardParts", fn := fun _ => fun
  | [d1, d2, d3, d4] => { results := [.lit (.bool false)], args := [d1, d2, d3, d4] }
  | _ => none }
def BoardPartsWrongFalsely : Prop := boardPartsRow.holds Try.pinned (OpenSpec.ofChange boardPartsWrong)

/-- 'cordonlaw18.BoardPlays': WHATEVER THE INPUT: true; the input reads as it did. -/
def boardPlaysSpec : ChangeSpec := { name := "boardPlays", fn := fun _ => fun
  | [d1, d2, d3, d4] => { results := [.lit (.bool true)], args := [d1, d2, d3, d4] }
  | _ => none }
def boardPlaysRow : OpenClaim := { program := "ytliajhikhmgbjaa", sum := "66ee55eaeb2629769c3fd50bba200b74be803df323c1bf5662bad7f58d094b42", func := "cordon/cordonlaw18.BoardPlays", spec := "boardPlays", apart := false }
def BoardPlaysSaid : Prop := boardPlaysRow.holds Try.pinned (OpenSpec.ofChange boardPlaysSpec)

/-- ITS FALSE NEIGHBOUR: 'it returns false'. Refute it at one input. -/
def boardPlaysWrong : ChangeSpec := { name := "boardPlays", fn := fun _ => fun
  | [d1, d2, d3, d4] => { results := [.lit (.bool false)], args := [d1, d2, d3, d4] }
  | _ => none }
def BoardPlaysWrongFalsely : Prop := boardPlaysRow.holds Try.pinned (OpenSpec.ofChange boardPlaysWrong)

/-- 'cordonlaw18.BoardTwins': WHATEVER THE INPUT: true; the input reads as it did. -/
def boardTwinsSpec : ChangeSpec := { name := "boardTwins", fn := fun _ => fun
  | [d1, d2, d3, d4] => { results := [.lit (.bool true)], args := [d1, d2, d3, d4] }
  | _ => none }
def boardTwinsRow : OpenClaim := { program := "ytliajhikhmgbjaa", sum := "66ee55eaeb2629769c3fd50bba200b74be803df323c1bf5662bad7f58d094b42", func := "cordon/cordonlaw18.BoardTwins", spec := "boardTwins", apart := false }
def BoardTwinsSaid : Prop := boardTwinsRow.holds Try.pinned (OpenSpec.ofChange boardTwinsSpec)

/-- ITS FALSE NEIGHBOUR: 'it returns false'. Refute it at one input. -/
def boardTwinsWrong : ChangeSpec := { name := "boardTwins", fn := fun _ => fun
  | [d1, d2, d3, d4] => { results := [.lit (.bool false)], args := [d1, d2, d3, d4] }
  | _ => none }
def BoardTwinsWrongFalsely : Prop := boardTwinsRow.holds Try.pinned (OpenSpec.ofChange boardTwinsWrong)

/- THE SECOND FORM. 'bulk': how many values and letters a reading holds, each counted each time it is reached (what is shared counts as often as it is met; a slice's spare places count too). A statement '..UptoSaid' is the law's where the arguments, and the package variables that the reading takes, are together of bulk at most 1048576: NARROWER than '..Said'. Prove '..Said' where nothing that the law and all that it calls make is longer than what came in: it says more and counts as full. Else prove '..UptoSaid'. A law counts once. -/
mutual
def uptoBulk {H : Type} : DataW H → Nat
  | .lit (.string bytes) => bytes.length + 1
  | .lit _ => 1
  | .nil => 1
  | .ptr d => uptoBulk d + 1
  | .slice elems spare => uptoBulkAll elems + uptoBulkAll spare + 1
  | .agg parts => uptoBulkAll parts + 1
  | .iface _ d => uptoBulk d + 1
  | .map entries => uptoBulkEntries entries + 1
  | .held _ => 1
def uptoBulkAll {H : Type} : List (DataW H) → Nat
  | [] => 0
  | d :: r => uptoBulk d + uptoBulkAll r
def uptoBulkEntries {H : Type} : List (Lit × DataW H) → Nat
  | [] => 0
  | x :: r => uptoBulkEntry x + uptoBulkEntries r
def uptoBulkEntry {H : Type} : Lit × DataW H → Nat
  | (.string bytes, d) => bytes.length + uptoBulk d + 1
  | (_, d) => uptoBulk d + 1
 end
def uptoSmall : (H : Type) → List (DataW H) → Bool := fun _ ds => decide (uptoBulkAll ds ≤ 1048576)
def OpenSpec.upto (s : _root_.Go.ChangeSpec) : _root_.Go.OpenSpec := { _root_.Go.OpenSpec.ofChange s with cond := some uptoSmall }

/-- 'cordonlaw18.BoardRuns', WHERE WHAT IT READS IS OF BULK AT MOST 1048576: true; the input reads as it did. -/
def boardRunsUptoRow : OpenClaim := { program := "ytliajhikhmgbjaa", sum := "66ee55eaeb2629769c3fd50bba200b74be803df323c1bf5662bad7f58d094b42", func := "cordon/cordonlaw18.BoardRuns", spec := "boardRuns", apart := false, narrowed := true }
def BoardRunsUptoSaid : Prop := boardRunsUptoRow.holds Try.pinned (OpenSpec.upto boardRunsSpec)

/-- 'cordonlaw18.BoardParts', WHERE WHAT IT READS IS OF BULK AT MOST 1048576: true; the input reads as it did. -/
def boardPartsUptoRow : OpenClaim := { program := "ytliajhikhmgbjaa", sum := "66ee55eaeb2629769c3fd50bba200b74be803df323c1bf5662bad7f58d094b42", func := "cordon/cordonlaw18.BoardParts", spec := "boardParts", apart := false, narrowed := true }
def BoardPartsUptoSaid : Prop := boardPartsUptoRow.holds Try.pinned (OpenSpec.upto boardPartsSpec)

/-- 'cordonlaw18.BoardPlays', WHERE WHAT IT READS IS OF BULK AT MOST 1048576: true; the input reads as it did. -/
def boardPlaysUptoRow : OpenClaim := { program := "ytliajhikhmgbjaa", sum := "66ee55eaeb2629769c3fd50bba200b74be803df323c1bf5662bad7f58d094b42", func := "cordon/cordonlaw18.BoardPlays", spec := "boardPlays", apart := false, narrowed := true }
def BoardPlaysUptoSaid : Prop := boardPlaysUptoRow.holds Try.pinned (OpenSpec.upto boardPlaysSpec)

/-- 'cordonlaw18.BoardTwins', WHERE WHAT IT READS IS OF BULK AT MOST 1048576: true; the input reads as it did. -/
def boardTwinsUptoRow : OpenClaim := { program := "ytliajhikhmgbjaa", sum := "66ee55eaeb2629769c3fd50bba200b74be803df323c1bf5662bad7f58d094b42", func := "cordon/cordonlaw18.BoardTwins", spec := "boardTwins", apart := false, narrowed := true }
def BoardTwinsUptoSaid : Prop := boardTwinsUptoRow.holds Try.pinned (OpenSpec.upto boardTwinsSpec)

end Rows
end Go.Proofs.Ytliajhikhmgbjaa
