/-
  No cell of these rows narrows 'for every input' (looked for: loops, veiled, ifaces, maps, wideKeys, modest, calm, conditions, laid).
  DERIVED. THE GIVEN ROWS OF THIS SEAT. 6 by the template 'for every input the law returns true; each argument reads behind the call as it read before'; 0 by the template 'total and deterministic' (their statements: YtoikgdmmcbaeiaaTotals.lean).
  GIVEN WITH THE SEED: the statements are not yours to turn. If you find one false, say at which input.
  Laid BY PROGRAM, IN A SANDBOX (cutbox-rows.mjs): the forced cells as the released guide's own fill.sh prints them over the translation d98f91ac4140e556… (all of the seat's roots in one cut). By AI agents, Wed Nov 11 2026. No macro, syntax, notation, axiom, sorry.
-/
import Derived.Test.YtoikgdmmcbaeiaaChecked
import GoSem.Claim
import GoSem.ClaimJoined
import GoSem.ClaimMapViews
import Derived.JoinedTies
import Derived.KernelRfl
namespace Go.Proofs.Ytoikgdmmcbaeiaa
/- THE CELL 'sum', in the pinned program and in every row, IS THE sha256 OF THE DUMP (.gsa) THAT YtoikgdmmcbaeiaaProg.lean LOADS. Nothing in Lean hashes anything: it is a label: what it is worth is what the hold of that sum in a sandbox is worth. -/
noncomputable def Try.pinned : Pinned := { name := "ytoikgdmmcbaeiaa", sum := "d98f91ac4140e556dec695e5183af3d30d445f159df8ea885538868cc5f4bbea", checked := Try.checked }
namespace Rows
def none {H : Type} : Left H := { results := [], args := [] }

/-- 'cordonlaw3.VintRuns': WHATEVER THE INPUT: true; the input reads as it did. -/
def vintRunsSpec : ChangeSpec := { name := "vintRuns", fn := fun _ => fun
  | [] => { results := [.lit (.bool true)], args := [] }
  | _ => none }
def vintRunsRow : OpenClaim := { program := "ytoikgdmmcbaeiaa", sum := "d98f91ac4140e556dec695e5183af3d30d445f159df8ea885538868cc5f4bbea", func := "cordon/cordonlaw3.VintRuns", spec := "vintRuns", apart := false }
def VintRunsSaid : Prop := vintRunsRow.holds Try.pinned (OpenSpec.ofChange vintRunsSpec)

/-- ITS FALSE NEIGHBOUR: 'it returns false'. Refute it at one input. -/
def vintRunsWrong : ChangeSpec := { name := "vintRuns", fn := fun _ => fun
  | [] => { results := [.lit (.bool false)], args := [] }
  | _ => none }
def VintRunsWrongFalsely : Prop := vintRunsRow.holds Try.pinned (OpenSpec.ofChange vintRunsWrong)

/-- 'cordonlaw3.VintBack': WHATEVER THE INPUT: true; the input reads as it did. -/
def vintBackSpec : ChangeSpec := { name := "vintBack", fn := fun _ => fun
  | [d1, d2, d3] => { results := [.lit (.bool true)], args := [d1, d2, d3] }
  | _ => none }
def vintBackRow : OpenClaim := { program := "ytoikgdmmcbaeiaa", sum := "d98f91ac4140e556dec695e5183af3d30d445f159df8ea885538868cc5f4bbea", func := "cordon/cordonlaw3.VintBack", spec := "vintBack", apart := false }
def VintBackSaid : Prop := vintBackRow.holds Try.pinned (OpenSpec.ofChange vintBackSpec)

/-- ITS FALSE NEIGHBOUR: 'it returns false'. Refute it at one input. -/
def vintBackWrong : ChangeSpec := { name := "vintBack", fn := fun _ => fun
  | [d1, d2, d3] => { results := [.lit (.bool false)], args := [d1, d2, d3] }
  | _ => none }
def VintBackWrongFalsely : Prop := vintBackRow.holds Try.pinned (OpenSpec.ofChange vintBackWrong)

/-- 'cordonlaw3.VintNext': WHATEVER THE INPUT: true; the input reads as it did. -/
def vintNextSpec : ChangeSpec := { name := "vintNext", fn := fun _ => fun
  | [d1, d2, d3] => { results := [.lit (.bool true)], args := [d1, d2, d3] }
  | _ => none }
def vintNextRow : OpenClaim := { program := "ytoikgdmmcbaeiaa", sum := "d98f91ac4140e556dec695e5183af3d30d445f159df8ea885538868cc5f4bbea", func := "cordon/cordonlaw3.VintNext", spec := "vintNext", apart := false }
def VintNextSaid : Prop := vintNextRow.holds Try.pinned (OpenSpec.ofChange vintNextSpec)

/-- ITS FALSE NEIGHBOUR: 'it returns false'. Refute it at one input. -/
def vintNextWrong : ChangeSpec := { name := "vintNext", fn := fun _ => fun
  | [d1, d2, d3] => { results := [.lit (.bool false)], args := [d1, d2, d3] }
  | _ => none }
def VintNextWrongFalsely : Prop := vintNextRow.holds Try.pinned (OpenSpec.ofChange vintNextWrong)

/-- 'cordonlaw3.VintSizes': WHATEVER THE INPUT: true; the input reads as it did. -/
def vintSizesSpec : ChangeSpec := { name := "vintSizes", fn := fun _ => fun
  | [d1, d2] => { results := [.lit (.bool true)], args := [d1, d2] }
  | _ => none }
def vintSizesRow : OpenClaim := { program := "ytoikgdmmcbaeiaa", sum := "d98f91ac4140e556dec695e5183af3d30d445f159df8ea885538868cc5f4bbea", func := "cordon/cordonlaw3.VintSizes", spec := "vintSizes", apart := false }
def VintSizesSaid : Prop := vintSizesRow.holds Try.pinned (OpenSpec.ofChange vintSizesSpec)

/-- ITS FALSE NEIGHBOUR: 'it returns false'. Refute it at one input. -/
def vintSizesWrong : ChangeSpec := { name := "vintSizes", fn := fun _ => fun
  | [d1, d2] => { results := [.lit (.bool false)], args := [d1, d2] }
  | _ => none }
def VintSizesWrongFalsely : Prop := vintSizesRow.holds Try.pinned (OpenSpec.ofChange vintSizesWrong)

/-- 'cordonlaw3.VintCuts': WHATEVER THE INPUT: true; the input reads as it did. -/
def vintCutsSpec : ChangeSpec := { name := "vintCuts", fn := fun _ => fun
  | [d1, d2] => { results := [.lit (.bool true)], args := [d1, d2] }
  | _ => none }
def vintCutsRow : OpenClaim := { program := "ytoikgdmmcbaeiaa", sum := "d98f91ac4140e556dec695e5183af3d30d445f159df8ea885538868cc5f4bbea", func := "cordon/cordonlaw3.VintCuts", spec := "vintCuts", apart := false }
def VintCutsSaid : Prop := vintCutsRow.holds Try.pinned (OpenSpec.ofChange vintCutsSpec)

/-- ITS FALSE NEIGHBOUR: 'it returns false'. Refute it at one input. -/
def vintCutsWrong : ChangeSpec := { name := "vintCuts", fn := fun _ => fun
  | [d1, d2] => { results := [.lit (.bool false)], args := [d1, d2] }
  | _ => none }
def VintCutsWrongFalsely : Prop := vintCutsRow.holds Try.pinned (OpenSpec.ofChange vintCutsWrong)

/-- 'cordonlaw3.VintSmall': WHATEVER THE INPUT: true; the input reads as it did. -/
def vintSmallSpec : ChangeSpec := { name := "vintSmall", fn := fun _ => fun
  | [d1, d2] => { results := [.lit (.bool true)], args := [d1, d2] }
  | _ => none }
def vintSmallRow : OpenClaim := { program := "ytoikgdmmcbaeiaa", sum := "d98f91ac4140e556dec695e5183af3d30d445f159df8ea885538868cc5f4bbea", func := "cordon/cordonlaw3.VintSmall", spec := "vintSmall", apart := false }
def VintSmallSaid : Prop := vintSmallRow.holds Try.pinned (OpenSpec.ofChange vintSmallSpec)

/-- ITS FALSE NEIGHBOUR: 'it returns false'. Refute it at one input. -/
def vintSmallWrong : ChangeSpec := { name := "vintSmall", fn := fun _ => fun
  | [d1, d2] => { results := [.lit (.bool false)], args := [d1, d2] }
  | _ => none }
def VintSmallWrongFalsely : Prop := vintSmallRow.holds Try.pinned (OpenSpec.ofChange vintSmallWrong)

/- THE SECOND FORM. 'bulk': how many values and letters a reading holds, each counted each time it is reached (what is shared counts as often as it is met; a slice's spare places count too). A statement '..UptoSaid' is the law's where the arguments, and the package variables that the reading takes, are together of bulk at most 1048576: NARROWER than '..Said'. Prove '..Said' where nothing that the law and all that it calls make is longer than what came in: it says more and counts as full. Else prove '..UptoSaid'. A law counts once. -/
mutual
def uptoBulk {H : Type} : DataW H → Nat
  | .lit (.string bytes) => bytes.length + 1
  | .lit _ => 1
  | .nil => 1
  | .ptr d => uptoBulk d + 1
  | .slice elems spare => uptoBulkAll elems + uptoBulkAll spare + 1
  | .agg parts => uptoBulkAll parts + 1
  | .iface _ d => uptoBulk d + 1
  | .map entries => uptoBulkEntries entries + 1
  | .held _ => 1
def uptoBulkAll {H : Type} : List (DataW H) → Nat
  | [] => 0
  | d :: r => uptoBulk d + uptoBulkAll r
def uptoBulkEntries {H : Type} : List (Lit × DataW H) → Nat
  | [] => 0
  | x :: r => uptoBulkEntry x + uptoBulkEntries r
def uptoBulkEntry {H : Type} : Lit × DataW H → Nat
  | (.string bytes, d) => bytes.length + uptoBulk d + 1
  | (_, d) => uptoBulk d + 1
 end
def uptoSmall : (H : Type) → List (DataW H) → Bool := fun _ ds => decide (uptoBulkAll ds ≤ 1048576)
def OpenSpec.upto (s : _root_.Go.ChangeSpec) : _root_.Go.OpenSpec := { _root_.Go.OpenSpec.ofChange s with cond := some uptoSmall }

/-- 'cordonlaw3.VintRuns', WHERE WHAT IT READS IS OF BULK AT MOST 1048576: true; the input reads as it did. -/
def vintRunsUptoRow : OpenClaim := { program := "ytoikgdmmcbaeiaa", sum := "d98f91ac4140e556dec695e5183af3d30d445f159df8ea885538868cc5f4bbea", func := "cordon/cordonlaw3.VintRuns", spec := "vintRuns", apart := false, narrowed := true }
def VintRunsUptoSaid : Prop := vintRunsUptoRow.holds Try.pinned (OpenSpec.upto vintRunsSpec)

/-- 'cordonlaw3.VintBack', WHERE WHAT IT READS IS OF BULK AT MOST 1048576: true; the input reads as it did. -/
def vintBackUptoRow : OpenClaim := { program := "ytoikgdmmcbaeiaa", sum := "d98f91ac4140e556dec695e5183af3d30d445f159df8ea885538868cc5f4bbea", func := "cordon/cordonlaw3.VintBack", spec := "vintBack", apart := false, narrowed := true }
def VintBackUptoSaid : Prop := vintBackUptoRow.holds Try.pinned (OpenSpec.upto vintBackSpec)

/-- 'cordonlaw3.VintNext', WHERE WHAT IT READS IS OF BULK AT MOST 1048576: true; the input reads as it did. -/
def vintNextUptoRow : OpenClaim := { program := "ytoikgdmmcbaeiaa", sum := "d98f91ac4140e556dec695e5183af3d30d445f159df8ea885538868cc5f4bbea", func := "cordon/cordonlaw3.VintNext", spec := "vintNext", apart := false, narrowed := true }
def VintNextUptoSaid : Prop := vintNextUptoRow.holds Try.pinned (OpenSpec.upto vintNextSpec)

/-- 'cordonlaw3.VintSizes', WHERE WHAT IT READS IS OF BULK AT MOST 1048576: true; the input reads as it did. -/
def vintSizesUptoRow : OpenClaim := { program := "ytoikgdmmcbaeiaa", sum := "d98f91ac4140e556dec695e5183af3d30d445f159df8ea885538868cc5f4bbea", func := "cordon/cordonlaw3.VintSizes", spec := "vintSizes", apart := false, narrowed := true }
def VintSizesUptoSaid : Prop := vintSizesUptoRow.holds Try.pinned (OpenSpec.upto vintSizesSpec)

/-- 'cordonlaw3.VintCuts', WHERE WHAT IT READS IS OF BULK AT MOST 1048576: true; the input reads as it did. -/
def vintCutsUptoRow : OpenClaim := { program := "ytoikgdmmcbaeiaa", sum := "d98f91ac4140e556dec695e5183af3d30d445f159df8ea885538868cc5f4bbea", func := "cordon/cordonlaw3.VintCuts", spec := "vintCuts", apart := false, narrowed := true }
def VintCutsUptoSaid : Prop := vintCutsUptoRow.holds Try.pinned (OpenSpec.upto vintCutsSpec)

/-- 'cordonlaw3.VintSmall', WHERE WHAT IT READS IS OF BULK AT MOST 1048576: true; the input reads as it did. -/
def vintSmallUptoRow : OpenClaim := { program := "ytoikgdmmcbaeiaa", sum := "d98f91ac4140e556dec695e5183af3d30d445f159df8ea885538868cc5f4bbea", func := "cordon/cordonlaw3.VintSmall", spec := "vintSmall", apart := false, narrowed := true }
def VintSmallUptoSaid : Prop := vintSmallUptoRow.holds Try.pinned (OpenSpec.upto vintSmallSpec)

end Rows
end Go.Proofs.Ytoikgdmmcbaeiaa
