/-
  No cell of these rows narrows 'for every input' (looked for: loops, veiled, ifaces, maps, wideKeys, modest, calm, conditions, laid).
  DERIVED. THE GIVEN ROWS OF THIS SEAT. 6 by the template 'for every input the law returns true; each argument reads behind the call as it read before'; 0 by the template 'total and deterministic' (their statements: YtlkapmaacepkjaaTotals.lean).
  GIVEN WITH THE SEED: the statements are not yours to turn. If you find one false, say at which input.
  Laid BY PROGRAM, IN A SANDBOX (cutbox-rows.mjs): the forced cells as the released guide's own fill.sh prints them over the translation c8b63eb510cb1246… (all of the seat's roots in one cut). By AI agents, Wed Nov 11 2026. No macro, syntax, notation, axiom, sorry.
-/
import Derived.Test.YtlkapmaacepkjaaChecked
import GoSem.Claim
import GoSem.ClaimJoined
import GoSem.ClaimMapViews
import Derived.JoinedTies
import Derived.KernelRfl
namespace Go.Proofs.Ytlkapmaacepkjaa
/- THE CELL 'sum', in the pinned program and in every row, IS THE sha256 OF THE DUMP (.gsa) THAT YtlkapmaacepkjaaProg.lean LOADS. Nothing in Lean hashes anything: it is a label: what it is worth is what the hold of that sum in a sandbox is worth. -/
noncomputable def Try.pinned : Pinned := { name := "ytlkapmaacepkjaa", sum := "c8b63eb510cb124616a5899d47c10df0d16f0882571140bd3370c02ec1c64ecc", checked := Try.checked }
namespace Rows
def none {H : Type} : Left H := { results := [], args := [] }

/-- 'cordonlaw7.AggRuns': WHATEVER THE INPUT: true; the input reads as it did. -/
def aggRunsSpec : ChangeSpec := { name := "aggRuns", fn := fun _ => fun
  | [] => { results := [.lit (.bool true)], args := [] }
  | _ => none }
def aggRunsRow : OpenClaim := { program := "ytlkapmaacepkjaa", sum := "c8b63eb510cb124616a5899d47c10df0d16f0882571140bd3370c02ec1c64ecc", func := "cordon/cordonlaw7.AggRuns", spec := "aggRuns", apart := false }
def AggRunsSaid : Prop := aggRunsRow.holds Try.pinned (OpenSpec.ofChange aggRunsSpec)

/-- ITS FALSE NEIGHBOUR: 'it returns false'. Refute it at one input. -/
def aggRunsWrong : ChangeSpec := { name := "aggRuns", fn := fun _ => fun
  | [] => { results := [.lit (.bool false)], args := [] }
  | _ => none }
def AggRunsWrongFalsely : Prop := aggRunsRow.holds Try.pinned (OpenSpec.ofChange aggRunsWrong)

/-- 'cordonlaw7.AggTally': WHATEVER THE INPUT: true; the input reads as it did. -/
def aggTallySpec : ChangeSpec := { name := "aggTally", fn := fun _ => fun
  | [d1, d2] => { results := [.lit (.bool true)], args := [d1, d2] }
  | _ => none }
def aggTallyRow : OpenClaim := { program := "ytlkapmaacepkjaa", sum := "c8b63eb510cb124616a5899d47c10df0d16f0882571140bd3370c02ec1c64ecc", func := "cordon/cordonlaw7.AggTally", spec := "aggTally", apart := false }
def AggTallySaid : Prop := aggTallyRow.holds Try.pinned (OpenSpec.ofChange aggTallySpec)

/-- ITS FALSE NEIGHBOUR: 'it returns false'. Refute it at one input. -/
def aggTallyWrong : ChangeSpec := { name := "aggTally", fn := fun _ => fun
  | [d1, d2] => { results := [.lit (.bool false)], args := [d1, d2] }
  | _ => none }
def AggTallyWrongFalsely : Prop := aggTallyRow.holds Try.pinned (OpenSpec.ofChange aggTallyWrong)

/-- 'cordonlaw7.AggEnds': WHATEVER THE INPUT: true; the input reads as it did. -/
def aggEndsSpec : ChangeSpec := { name := "aggEnds", fn := fun _ => fun
  | [d] => { results := [.lit (.bool true)], args := [d] }
  | _ => none }
def aggEndsRow : OpenClaim := { program := "ytlkapmaacepkjaa", sum := "c8b63eb510cb124616a5899d47c10df0d16f0882571140bd3370c02ec1c64ecc", func := "cordon/cordonlaw7.AggEnds", spec := "aggEnds", apart := false }
def AggEndsSaid : Prop := aggEndsRow.holds Try.pinned (OpenSpec.ofChange aggEndsSpec)

/-- ITS FALSE NEIGHBOUR: 'it returns false'. Refute it at one input. -/
def aggEndsWrong : ChangeSpec := { name := "aggEnds", fn := fun _ => fun
  | [d] => { results := [.lit (.bool false)], args := [d] }
  | _ => none }
def AggEndsWrongFalsely : Prop := aggEndsRow.holds Try.pinned (OpenSpec.ofChange aggEndsWrong)

/-- 'cordonlaw7.AggTells': WHATEVER THE INPUT: true; the input reads as it did. -/
def aggTellsSpec : ChangeSpec := { name := "aggTells", fn := fun _ => fun
  | [d1, d2] => { results := [.lit (.bool true)], args := [d1, d2] }
  | _ => none }
def aggTellsRow : OpenClaim := { program := "ytlkapmaacepkjaa", sum := "c8b63eb510cb124616a5899d47c10df0d16f0882571140bd3370c02ec1c64ecc", func := "cordon/cordonlaw7.AggTells", spec := "aggTells", apart := false }
def AggTellsSaid : Prop := aggTellsRow.holds Try.pinned (OpenSpec.ofChange aggTellsSpec)

/-- ITS FALSE NEIGHBOUR: 'it returns false'. Refute it at one input. -/
def aggTellsWrong : ChangeSpec := { name := "aggTells", fn := fun _ => fun
  | [d1, d2] => { results := [.lit (.bool false)], args := [d1, d2] }
  | _ => none }
def AggTellsWrongFalsely : Prop := aggTellsRow.holds Try.pinned (OpenSpec.ofChange aggTellsWrong)

/-- 'cordonlaw7.AggMerges': WHATEVER THE INPUT: true; the input reads as it did. -/
def aggMergesSpec : ChangeSpec := { name := "aggMerges", fn := fun _ => fun
  | [d1, d2, d3, d4, d5] => { results := [.lit (.bool true)], args := [d1, d2, d3, d4, d5] }
  | _ => none }
def aggMergesRow : OpenClaim := { program := "ytlkapmaacepkjaa", sum := "c8b63eb510cb124616a5899d47c10df0d16f0882571140bd3370c02ec1c64ecc", func := "cordon/cordonlaw7.AggMerges", spec := "aggMerges", apart := false }
def AggMergesSaid : Prop := aggMergesRow.holds Try.pinned (OpenSpec.ofChange aggMergesSpec)

/-- ITS FALSE NEIGHBOUR: 'it returns false'. Refute it at one input. -/
def aggMergesWrong : ChangeSpec := { name := "aggMerges", fn := fun _ => fun
  | [d1, d2, d3, d4, d5] => { results := [.lit (.bool false)], args := [d1, d2, d3, d4, d5] }
  | _ => none }
def AggMergesWrongFalsely : Prop := aggMergesRow.holds Try.pinned (OpenSpec.ofChange aggMergesWrong)

/-- 'cordonlaw7.AggMany': WHATEVER THE INPUT: true; the input reads as it did. -/
def aggManySpec : ChangeSpec := { name := "aggMany", fn := fun _ => fun
  | [d1, d2, d3] => { results := [.lit (.bool true)], args := [d1, d2, d3] }
  | _ => none }
def aggManyRow : OpenClaim := { program := "ytlkapmaacepkjaa", sum := "c8b63eb510cb124616a5899d47c10df0d16f0882571140bd3370c02ec1c64ecc", func := "cordon/cordonlaw7.AggMany", spec := "aggMany", apart := false }
def AggManySaid : Prop := aggManyRow.holds Try.pinned (OpenSpec.ofChange aggManySpec)

/-- ITS FALSE NEIGHBOUR: 'it returns false'. Refute it at one input. -/
def aggManyWrong : ChangeSpec := { name := "aggMany", fn := fun _ => fun
  | [d1, d2, d3] => { results := [.lit (.bool false)], args := [d1, d2, d3] }
  | _ => none }
def AggManyWrongFalsely : Prop := aggManyRow.holds Try.pinned (OpenSpec.ofChange aggManyWrong)

/- THE SECOND FORM. 'bulk': how many values and letters a reading holds, each counted each time it is reached (what is shared counts as often as it is met; a slice's spare places count too). A statement '..UptoSaid' is the law's where the arguments, and the package variables that the reading takes, are together of bulk at most 1048576: NARROWER than '..Said'. Prove '..Said' where nothing that the law and all that it calls make is longer than what came in: it says more and counts as full. Else prove '..UptoSaid'. A law counts once. -/
mutual
def uptoBulk {H : Type} : DataW H → Nat
  | .lit (.string bytes) => bytes.length + 1
  | .lit _ => 1
  | .nil => 1
  | .ptr d => uptoBulk d + 1
  | .slice elems spare => uptoBulkAll elems + uptoBulkAll spare + 1
  | .agg parts => uptoBulkAll parts + 1
  | .iface _ d => uptoBulk d + 1
  | .map entries => uptoBulkEntries entries + 1
  | .held _ => 1
def uptoBulkAll {H : Type} : List (DataW H) → Nat
  | [] => 0
  | d :: r => uptoBulk d + uptoBulkAll r
def uptoBulkEntries {H : Type} : List (Lit × DataW H) → Nat
  | [] => 0
  | x :: r => uptoBulkEntry x + uptoBulkEntries r
def uptoBulkEntry {H : Type} : Lit × DataW H → Nat
  | (.string bytes, d) => bytes.length + uptoBulk d + 1
  | (_, d) => uptoBulk d + 1
 end
def uptoSmall : (H : Type) → List (DataW H) → Bool := fun _ ds => decide (uptoBulkAll ds ≤ 1048576)
def OpenSpec.upto (s : _root_.Go.ChangeSpec) : _root_.Go.OpenSpec := { _root_.Go.OpenSpec.ofChange s with cond := some uptoSmall }

/-- 'cordonlaw7.AggRuns', WHERE WHAT IT READS IS OF BULK AT MOST 1048576: true; the input reads as it did. -/
def aggRunsUptoRow : OpenClaim := { program := "ytlkapmaacepkjaa", sum := "c8b63eb510cb124616a5899d47c10df0d16f0882571140bd3370c02ec1c64ecc", func := "cordon/cordonlaw7.AggRuns", spec := "aggRuns", apart := false, narrowed := true }
def AggRunsUptoSaid : Prop := aggRunsUptoRow.holds Try.pinned (OpenSpec.upto aggRunsSpec)

/-- 'cordonlaw7.AggTally', WHERE WHAT IT READS IS OF BULK AT MOST 1048576: true; the input reads as it did. -/
def aggTallyUptoRow : OpenClaim := { program := "ytlkapmaacepkjaa", sum := "c8b63eb510cb124616a5899d47c10df0d16f0882571140bd3370c02ec1c64ecc", func := "cordon/cordonlaw7.AggTally", spec := "aggTally", apart := false, narrowed := true }
def AggTallyUptoSaid : Prop := aggTallyUptoRow.holds Try.pinned (OpenSpec.upto aggTallySpec)

/-- 'cordonlaw7.AggEnds', WHERE WHAT IT READS IS OF BULK AT MOST 1048576: true; the input reads as it did. -/
def aggEndsUptoRow : OpenClaim := { program := "ytlkapmaacepkjaa", sum := "c8b63eb510cb124616a5899d47c10df0d16f0882571140bd3370c02ec1c64ecc", func := "cordon/cordonlaw7.AggEnds", spec := "aggEnds", apart := false, narrowed := true }
def AggEndsUptoSaid : Prop := aggEndsUptoRow.holds Try.pinned (OpenSpec.upto aggEndsSpec)

/-- 'cordonlaw7.AggTells', WHERE WHAT IT READS IS OF BULK AT MOST 1048576: true; the input reads as it did. -/
def aggTellsUptoRow : OpenClaim := { program := "ytlkapmaacepkjaa", sum := "c8b63eb510cb124616a5899d47c10df0d16f0882571140bd3370c02ec1c64ecc", func := "cordon/cordonlaw7.AggTells", spec := "aggTells", apart := false, narrowed := true }
def AggTellsUptoSaid : Prop := aggTellsUptoRow.holds Try.pinned (OpenSpec.upto aggTellsSpec)

/-- 'cordonlaw7.AggMerges', WHERE WHAT IT READS IS OF BULK AT MOST 1048576: true; the input reads as it did. -/
def aggMergesUptoRow : OpenClaim := { program := "ytlkapmaacepkjaa", sum := "c8b63eb510cb124616a5899d47c10df0d16f0882571140bd3370c02ec1c64ecc", func := "cordon/cordonlaw7.AggMerges", spec := "aggMerges", apart := false, narrowed := true }
def AggMergesUptoSaid : Prop := aggMergesUptoRow.holds Try.pinned (OpenSpec.upto aggMergesSpec)

/-- 'cordonlaw7.AggMany', WHERE WHAT IT READS IS OF BULK AT MOST 1048576: true; the input reads as it did. -/
def aggManyUptoRow : OpenClaim := { program := "ytlkapmaacepkjaa", sum := "c8b63eb510cb124616a5899d47c10df0d16f0882571140bd3370c02ec1c64ecc", func := "cordon/cordonlaw7.AggMany", spec := "aggMany", apart := false, narrowed := true }
def AggManyUptoSaid : Prop := aggManyUptoRow.holds Try.pinned (OpenSpec.upto aggManySpec)

end Rows
end Go.Proofs.Ytlkapmaacepkjaa
