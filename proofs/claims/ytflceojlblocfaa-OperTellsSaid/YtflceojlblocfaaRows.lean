/-
  No cell of these rows narrows 'for every input' (looked for: loops, veiled, ifaces, maps, wideKeys, modest, calm, conditions, laid).
  DERIVED. THE GIVEN ROWS OF THIS SEAT. 5 by the template 'for every input the law returns true; each argument reads behind the call as it read before'; 0 by the template 'total and deterministic' (their statements: YtflceojlblocfaaTotals.lean).
  GIVEN WITH THE SEED: the statements are not yours to turn. If you find one false, say at which input.
  Laid BY PROGRAM, IN A SANDBOX (cutbox-rows.mjs): the forced cells as the released guide's own fill.sh prints them over the translation 788d61795448e674… (all of the seat's roots in one cut). By AI agents, Wed Nov 11 2026. No macro, syntax, notation, axiom, sorry.
-/
import Derived.Test.YtflceojlblocfaaChecked
import GoSem.Claim
import GoSem.ClaimJoined
import GoSem.ClaimMapViews
import Derived.JoinedTies
import Derived.KernelRfl
namespace Go.Proofs.Ytflceojlblocfaa
/- THE CELL 'sum', in the pinned program and in every row, IS THE sha256 OF THE DUMP (.gsa) THAT YtflceojlblocfaaProg.lean LOADS. Nothing in Lean hashes anything: it is a label: what it is worth is what the hold of that sum in a sandbox is worth. -/
noncomputable def Try.pinned : Pinned := { name := "ytflceojlblocfaa", sum := "788d61795448e6746aac6abf3ffbf3657c83c18ea4f2b96447f844a0e3efb5fb", checked := Try.checked }
namespace Rows
def none {H : Type} : Left H := { results := [], args := [] }

/-- 'cordonlaw5.OperRuns': WHATEVER THE INPUT: true; the input reads as it did. -/
def operRunsSpec : ChangeSpec := { name := "operRuns", fn := fun _ => fun
  | [] => { results := [.lit (.bool true)], args := [] }
  | _ => none }
def operRunsRow : OpenClaim := { program := "ytflceojlblocfaa", sum := "788d61795448e6746aac6abf3ffbf3657c83c18ea4f2b96447f844a0e3efb5fb", func := "cordon/cordonlaw5.OperRuns", spec := "operRuns", apart := false }
def OperRunsSaid : Prop := operRunsRow.holds Try.pinned (OpenSpec.ofChange operRunsSpec)

/-- ITS FALSE NEIGHBOUR: 'it returns false'. Refute it at one input. -/
def operRunsWrong : ChangeSpec := { name := "operRuns", fn := fun _ => fun
  | [] => { results := [.lit (.bool false)], args := [] }
  | _ => none }
def OperRunsWrongFalsely : Prop := operRunsRow.holds Try.pinned (OpenSpec.ofChange operRunsWrong)

/-- 'cordonlaw5.OperParts': WHATEVER THE INPUT: true; the input reads as it did. -/
def operPartsSpec : ChangeSpec := { name := "operParts", fn := fun _ => fun
  | [d1, d2, d3, d4] => { results := [.lit (.bool true)], args := [d1, d2, d3, d4] }
  | _ => none }
def operPartsRow : OpenClaim := { program := "ytflceojlblocfaa", sum := "788d61795448e6746aac6abf3ffbf3657c83c18ea4f2b96447f844a0e3efb5fb", func := "cordon/cordonlaw5.OperParts", spec := "operParts", apart := false }
def OperPartsSaid : Prop := operPartsRow.holds Try.pinned (OpenSpec.ofChange operPartsSpec)

/-- ITS FALSE NEIGHBOUR: 'it returns false'. Refute it at one input. -/
def operPartsWrong : ChangeSpec := { name := "operParts", fn := fun _ => fun
  | [d1, d2, d3, d4] => { results := [.lit (.bool false)], args := [d1, d2, d3, d4] }
  | _ => none }
def OperPartsWrongFalsely : Prop := operPartsRow.holds Try.pinned (OpenSpec.ofChange operPartsWrong)

/-- 'cordonlaw5.OperKeys': WHATEVER THE INPUT: true; the input reads as it did. -/
def operKeysSpec : ChangeSpec := { name := "operKeys", fn := fun _ => fun
  | [d1, d2, d3, d4] => { results := [.lit (.bool true)], args := [d1, d2, d3, d4] }
  | _ => none }
def operKeysRow : OpenClaim := { program := "ytflceojlblocfaa", sum := "788d61795448e6746aac6abf3ffbf3657c83c18ea4f2b96447f844a0e3efb5fb", func := "cordon/cordonlaw5.OperKeys", spec := "operKeys", apart := false }
def OperKeysSaid : Prop := operKeysRow.holds Try.pinned (OpenSpec.ofChange operKeysSpec)

/-- ITS FALSE NEIGHBOUR: 'it returns false'. Refute it at one input. -/
def operKeysWrong : ChangeSpec := { name := "operKeys", fn := fun _ => fun
  | [d1, d2, d3, d4] => { results := [.lit (.bool false)], args := [d1, d2, d3, d4] }
  | _ => none }
def OperKeysWrongFalsely : Prop := operKeysRow.holds Try.pinned (OpenSpec.ofChange operKeysWrong)

/-- 'cordonlaw5.OperTells': WHATEVER THE INPUT: true; the input reads as it did. -/
def operTellsSpec : ChangeSpec := { name := "operTells", fn := fun _ => fun
  | [d1, d2] => { results := [.lit (.bool true)], args := [d1, d2] }
  | _ => none }
def operTellsRow : OpenClaim := { program := "ytflceojlblocfaa", sum := "788d61795448e6746aac6abf3ffbf3657c83c18ea4f2b96447f844a0e3efb5fb", func := "cordon/cordonlaw5.OperTells", spec := "operTells", apart := false }
def OperTellsSaid : Prop := operTellsRow.holds Try.pinned (OpenSpec.ofChange operTellsSpec)

/-- ITS FALSE NEIGHBOUR: 'it returns false'. Refute it at one input. -/
def operTellsWrong : ChangeSpec := { name := "operTells", fn := fun _ => fun
  | [d1, d2] => { results := [.lit (.bool false)], args := [d1, d2] }
  | _ => none }
def OperTellsWrongFalsely : Prop := operTellsRow.holds Try.pinned (OpenSpec.ofChange operTellsWrong)

/-- 'cordonlaw5.OperFilters': WHATEVER THE INPUT: true; the input reads as it did. -/
def operFiltersSpec : ChangeSpec := { name := "operFilters", fn := fun _ => fun
  | [d1, d2, d3, d4] => { results := [.lit (.bool true)], args := [d1, d2, d3, d4] }
  | _ => none }
def operFiltersRow : OpenClaim := { program := "ytflceojlblocfaa", sum := "788d61795448e6746aac6abf3ffbf3657c83c18ea4f2b96447f844a0e3efb5fb", func := "cordon/cordonlaw5.OperFilters", spec := "operFilters", apart := false }
def OperFiltersSaid : Prop := operFiltersRow.holds Try.pinned (OpenSpec.ofChange operFiltersSpec)

/-- ITS FALSE NEIGHBOUR: 'it returns false'. Refute it at one input. -/
def operFiltersWrong : ChangeSpec := { name := "operFilters", fn := fun _ => fun
  | [d1, d2, d3, d4] => { results := [.lit (.bool false)], args := [d1, d2, d3, d4] }
  | _ => none }
def OperFiltersWrongFalsely : Prop := operFiltersRow.holds Try.pinned (OpenSpec.ofChange operFiltersWrong)

/- THE SECOND FORM. 'bulk': how many values and letters a reading holds, each counted each time it is reached (what is shared counts as often as it is met; a slice's spare places count too). A statement '..UptoSaid' is the law's where the arguments, and the package variables that the reading takes, are together of bulk at most 1048576: NARROWER than '..Said'. Prove '..Said' where nothing that the law and all that it calls make is longer than what came in: it says more and counts as full. Else prove '..UptoSaid'. A law counts once. -/
mutual
def uptoBulk {H : Type} : DataW H → Nat
  | .lit (.string bytes) => bytes.length + 1
  | .lit _ => 1
  | .nil => 1
  | .ptr d => uptoBulk d + 1
  | .slice elems spare => uptoBulkAll elems + uptoBulkAll spare + 1
  | .agg parts => uptoBulkAll parts + 1
  | .iface _ d => uptoBulk d + 1
  | .map entries => uptoBulkEntries entries + 1
  | .held _ => 1
def uptoBulkAll {H : Type} : List (DataW H) → Nat
  | [] => 0
  | d :: r => uptoBulk d + uptoBulkAll r
def uptoBulkEntries {H : Type} : List (Lit × DataW H) → Nat
  | [] => 0
  | x :: r => uptoBulkEntry x + uptoBulkEntries r
def uptoBulkEntry {H : Type} : Lit × DataW H → Nat
  | (.string bytes, d) => bytes.length + uptoBulk d + 1
  | (_, d) => uptoBulk d + 1
 end
def uptoSmall : (H : Type) → List (DataW H) → Bool := fun _ ds => decide (uptoBulkAll ds ≤ 1048576)
def OpenSpec.upto (s : _root_.Go.ChangeSpec) : _root_.Go.OpenSpec := { _root_.Go.OpenSpec.ofChange s with cond := some uptoSmall }

/-- 'cordonlaw5.OperRuns', WHERE WHAT IT READS IS OF BULK AT MOST 1048576: true; the input reads as it did. -/
def operRunsUptoRow : OpenClaim := { program := "ytflceojlblocfaa", sum := "788d61795448e6746aac6abf3ffbf3657c83c18ea4f2b96447f844a0e3efb5fb", func := "cordon/cordonlaw5.OperRuns", spec := "operRuns", apart := false, narrowed := true }
def OperRunsUptoSaid : Prop := operRunsUptoRow.holds Try.pinned (OpenSpec.upto operRunsSpec)

/-- 'cordonlaw5.OperParts', WHERE WHAT IT READS IS OF BULK AT MOST 1048576: true; the input reads as it did. -/
def operPartsUptoRow : OpenClaim := { program := "ytflceojlblocfaa", sum := "788d61795448e6746aac6abf3ffbf3657c83c18ea4f2b96447f844a0e3efb5fb", func := "cordon/cordonlaw5.OperParts", spec := "operParts", apart := false, narrowed := true }
def OperPartsUptoSaid : Prop := operPartsUptoRow.holds Try.pinned (OpenSpec.upto operPartsSpec)

/-- 'cordonlaw5.OperKeys', WHERE WHAT IT READS IS OF BULK AT MOST 1048576: true; the input reads as it did. -/
def operKeysUptoRow : OpenClaim := { program := "ytflceojlblocfaa", sum := "788d61795448e6746aac6abf3ffbf3657c83c18ea4f2b96447f844a0e3efb5fb", func := "cordon/cordonlaw5.OperKeys", spec := "operKeys", apart := false, narrowed := true }
def OperKeysUptoSaid : Prop := operKeysUptoRow.holds Try.pinned (OpenSpec.upto operKeysSpec)

/-- 'cordonlaw5.OperTells', WHERE WHAT IT READS IS OF BULK AT MOST 1048576: true; the input reads as it did. -/
def operTellsUptoRow : OpenClaim := { program := "ytflceojlblocfaa", sum := "788d61795448e6746aac6abf3ffbf3657c83c18ea4f2b96447f844a0e3efb5fb", func := "cordon/cordonlaw5.OperTells", spec := "operTells", apart := false, narrowed := true }
def OperTellsUptoSaid : Prop := operTellsUptoRow.holds Try.pinned (OpenSpec.upto operTellsSpec)

/-- 'cordonlaw5.OperFilters', WHERE WHAT IT READS IS OF BULK AT MOST 1048576: true; the input reads as it did. -/
def operFiltersUptoRow : OpenClaim := { program := "ytflceojlblocfaa", sum := "788d61795448e6746aac6abf3ffbf3657c83c18ea4f2b96447f844a0e3efb5fb", func := "cordon/cordonlaw5.OperFilters", spec := "operFilters", apart := false, narrowed := true }
def OperFiltersUptoSaid : Prop := operFiltersUptoRow.holds Try.pinned (OpenSpec.upto operFiltersSpec)

end Rows
end Go.Proofs.Ytflceojlblocfaa
