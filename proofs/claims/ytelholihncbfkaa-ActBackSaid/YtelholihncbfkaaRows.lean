/-
  No cell of these rows narrows 'for every input' (looked for: loops, veiled, ifaces, maps, wideKeys, modest, calm, conditions, laid).
  DERIVED. THE GIVEN ROWS OF THIS SEAT. 5 by the template 'for every input the law returns true; each argument reads behind the call as it read before'; 0 by the template 'total and deterministic' (their statements: YtelholihncbfkaaTotals.lean).
  GIVEN WITH THE SEED: the statements are not yours to turn. If you find one false, say at which input.
  Laid BY PROGRAM, IN A SANDBOX (cutbox-rows.mjs): the forced cells as the released guide's own fill.sh prints them over the translation 661b987b4924e026… (all of the seat's roots in one cut). By AI agents, Wed Nov 11 2026. No macro, syntax, notation, axiom, sorry.
-/
import Derived.Test.YtelholihncbfkaaChecked
import GoSem.Claim
import GoSem.ClaimJoined
import GoSem.ClaimMapViews
import Derived.JoinedTies
import Derived.KernelRfl
namespace Go.Proofs.Ytelholihncbfkaa
/- THE CELL 'sum', in the pinned program and in every row, IS THE sha256 OF THE DUMP (.gsa) THAT YtelholihncbfkaaProg.lean LOADS. Nothing in Lean hashes anything: it is a label: what it is worth is what the hold of that sum in a sandbox is worth. -/
noncomputable def Try.pinned : Pinned := { name := "ytelholihncbfkaa", sum := "661b987b4924e026c5e92df8ab8cac62061fb2dee09d5d1b928210db905e3016", checked := Try.checked }
namespace Rows
def none {H : Type} : Left H := { results := [], args := [] }

/-- 'cordonlaw21.ActRuns': WHATEVER THE INPUT: true; the input reads as it did. -/
def actRunsSpec : ChangeSpec := { name := "actRuns", fn := fun _ => fun
  | [] => { results := [.lit (.bool true)], args := [] }
  | _ => none }
def actRunsRow : OpenClaim := { program := "ytelholihncbfkaa", sum := "661b987b4924e026c5e92df8ab8cac62061fb2dee09d5d1b928210db905e3016", func := "cordon/cordonlaw21.ActRuns", spec := "actRuns", apart := false }
def ActRunsSaid : Prop := actRunsRow.holds Try.pinned (OpenSpec.ofChange actRunsSpec)

/-- ITS FALSE NEIGHBOUR: 'it returns false'. Refute it at one input. -/
def actRunsWrong : ChangeSpec := { name := "actRuns", fn := fun _ => fun
  | [] => { results := [.lit (.bool false)], args := [] }
  | _ => none }
def ActRunsWrongFalsely : Prop := actRunsRow.holds Try.pinned (OpenSpec.ofChange actRunsWrong)

/-- 'cordonlaw21.ActKinds': WHATEVER THE INPUT: true; the input reads as it did. -/
def actKindsSpec : ChangeSpec := { name := "actKinds", fn := fun _ => fun
  | [d1, d2, d3, d4] => { results := [.lit (.bool true)], args := [d1, d2, d3, d4] }
  | _ => none }
def actKindsRow : OpenClaim := { program := "ytelholihncbfkaa", sum := "661b987b4924e026c5e92df8ab8cac62061fb2dee09d5d1b928210db905e3016", func := "cordon/cordonlaw21.ActKinds", spec := "actKinds", apart := false }
def ActKindsSaid : Prop := actKindsRow.holds Try.pinned (OpenSpec.ofChange actKindsSpec)

/-- ITS FALSE NEIGHBOUR: 'it returns false'. Refute it at one input. -/
def actKindsWrong : ChangeSpec := { name := "actKinds", fn := fun _ => fun
  | [d1, d2, d3, d4] => { results := [.lit (.bool false)], args := [d1, d2, d3, d4] }
  | _ => none }
def ActKindsWrongFalsely : Prop := actKindsRow.holds Try.pinned (OpenSpec.ofChange actKindsWrong)

/-- 'cordonlaw21.ActBack': WHATEVER THE INPUT: true; the input reads as it did. -/
def actBackSpec : ChangeSpec := { name := "actBack", fn := fun _ => fun
  | [d1, d2, d3, d4, d5] => { results := [.lit (.bool true)], args := [d1, d2, d3, d4, d5] }
  | _ => none }
def actBackRow : OpenClaim := { program := "ytelholihncbfkaa", sum := "661b987b4924e026c5e92df8ab8cac62061fb2dee09d5d1b928210db905e3016", func := "cordon/cordonlaw21.ActBack", spec := "actBack", apart := false }
def ActBackSaid : Prop := actBackRow.holds Try.pinned (OpenSpec.ofChange actBackSpec)

/-- ITS FALSE NEIGHBOUR: 'it returns false'. Refute it at one input. -/
def actBackWrong : ChangeSpec := { name := "actBack", fn := fun _ => fun
  | [d1, d2, d3, d4, d5] => { results := [.lit (.bool false)], args := [d1, d2, d3, d4, d5] }
  | _ => none }
def ActBackWrongFalsely : Prop := actBackRow.holds Try.pinned (OpenSpec.ofChange actBackWrong)

/-- 'cordonlaw21.ActOnly': WHATEVER THE INPUT: true; the input reads as it did. -/
def actOnlySpec : ChangeSpec := { name := "actOnly", fn := fun _ => fun
  | [d1, d2, d3, d4, d5] => { results := [.lit (.bool true)], args := [d1, d2, d3, d4, d5] }
  | _ => none }
def actOnlyRow : OpenClaim := { program := "ytelholihncbfkaa", sum := "661b987b4924e026c5e92df8ab8cac62061fb2dee09d5d1b928210db905e3016", func := "cordon/cordonlaw21.ActOnly", spec := "actOnly", apart := false }
def ActOnlySaid : Prop := actOnlyRow.holds Try.pinned (OpenSpec.ofChange actOnlySpec)

/-- ITS FALSE NEIGHBOUR: 'it returns false'. Refute it at one input. -/
def actOnlyWrong : ChangeSpec := { name := "actOnly", fn := fun _ => fun
  | [d1, d2, d3, d4, d5] => { results := [.lit (.bool false)], args := [d1, d2, d3, d4, d5] }
  | _ => none }
def ActOnlyWrongFalsely : Prop := actOnlyRow.holds Try.pinned (OpenSpec.ofChange actOnlyWrong)

/-- 'cordonlaw21.ActPlain': WHATEVER THE INPUT: true; the input reads as it did. -/
def actPlainSpec : ChangeSpec := { name := "actPlain", fn := fun _ => fun
  | [d1, d2, d3, d4] => { results := [.lit (.bool true)], args := [d1, d2, d3, d4] }
  | _ => none }
def actPlainRow : OpenClaim := { program := "ytelholihncbfkaa", sum := "661b987b4924e026c5e92df8ab8cac62061fb2dee09d5d1b928210db905e3016", func := "cordon/cordonlaw21.ActPlain", spec := "actPlain", apart := false }
def ActPlainSaid : Prop := actPlainRow.holds Try.pinned (OpenSpec.ofChange actPlainSpec)

/-- ITS FALSE NEIGHBOUR: 'it returns false'. Refute it at one input. -/
def actPlainWrong : ChangeSpec := { name := "actPlain", fn := fun _ => fun
  | [d1, d2, d3, d4] => { results := [.lit (.bool false)], args := [d1, d2, d3, d4] }
  | _ => none }
def ActPlainWrongFalsely : Prop := actPlainRow.holds Try.pinned (OpenSpec.ofChange actPlainWrong)

/- THE SECOND FORM. 'bulk': how many values and letters a reading holds, each counted each time it is reached (what is shared counts as often as it is met; a slice's spare places count too). A statement '..UptoSaid' is the law's where the arguments, and the package variables that the reading takes, are together of bulk at most 1048576: NARROWER than '..Said'. Prove '..Said' where nothing that the law and all that it calls make is longer than what came in: it says more and counts as full. Else prove '..UptoSaid'. A law counts once. -/
mutual
def uptoBulk {H : Type} : DataW H → Nat
  | .lit (.string bytes) => bytes.length + 1
  | .lit _ => 1
  | .nil => 1
  | .ptr d => uptoBulk d + 1
  | .slice elems spare => uptoBulkAll elems + uptoBulkAll spare + 1
  | .agg parts => uptoBulkAll parts + 1
  | .iface _ d => uptoBulk d + 1
  | .map entries => uptoBulkEntries entries + 1
  | .held _ => 1
def uptoBulkAll {H : Type} : List (DataW H) → Nat
  | [] => 0
  | d :: r => uptoBulk d + uptoBulkAll r
def uptoBulkEntries {H : Type} : List (Lit × DataW H) → Nat
  | [] => 0
  | x :: r => uptoBulkEntry x + uptoBulkEntries r
def uptoBulkEntry {H : Type} : Lit × DataW H → Nat
  | (.string bytes, d) => bytes.length + uptoBulk d + 1
  | (_, d) => uptoBulk d + 1
 end
def uptoSmall : (H : Type) → List (DataW H) → Bool := fun _ ds => decide (uptoBulkAll ds ≤ 1048576)
def OpenSpec.upto (s : _root_.Go.ChangeSpec) : _root_.Go.OpenSpec := { _root_.Go.OpenSpec.ofChange s with cond := some uptoSmall }

/-- 'cordonlaw21.ActRuns', WHERE WHAT IT READS IS OF BULK AT MOST 1048576: true; the input reads as it did. -/
def actRunsUptoRow : OpenClaim := { program := "ytelholihncbfkaa", sum := "661b987b4924e026c5e92df8ab8cac62061fb2dee09d5d1b928210db905e3016", func := "cordon/cordonlaw21.ActRuns", spec := "actRuns", apart := false, narrowed := true }
def ActRunsUptoSaid : Prop := actRunsUptoRow.holds Try.pinned (OpenSpec.upto actRunsSpec)

/-- 'cordonlaw21.ActKinds', WHERE WHAT IT READS IS OF BULK AT MOST 1048576: true; the input reads as it did. -/
def actKindsUptoRow : OpenClaim := { program := "ytelholihncbfkaa", sum := "661b987b4924e026c5e92df8ab8cac62061fb2dee09d5d1b928210db905e3016", func := "cordon/cordonlaw21.ActKinds", spec := "actKinds", apart := false, narrowed := true }
def ActKindsUptoSaid : Prop := actKindsUptoRow.holds Try.pinned (OpenSpec.upto actKindsSpec)

/-- 'cordonlaw21.ActBack', WHERE WHAT IT READS IS OF BULK AT MOST 1048576: true; the input reads as it did. -/
def actBackUptoRow : OpenClaim := { program := "ytelholihncbfkaa", sum := "661b987b4924e026c5e92df8ab8cac62061fb2dee09d5d1b928210db905e3016", func := "cordon/cordonlaw21.ActBack", spec := "actBack", apart := false, narrowed := true }
def ActBackUptoSaid : Prop := actBackUptoRow.holds Try.pinned (OpenSpec.upto actBackSpec)

/-- 'cordonlaw21.ActOnly', WHERE WHAT IT READS IS OF BULK AT MOST 1048576: true; the input reads as it did. -/
def actOnlyUptoRow : OpenClaim := { program := "ytelholihncbfkaa", sum := "661b987b4924e026c5e92df8ab8cac62061fb2dee09d5d1b928210db905e3016", func := "cordon/cordonlaw21.ActOnly", spec := "actOnly", apart := false, narrowed := true }
def ActOnlyUptoSaid : Prop := actOnlyUptoRow.holds Try.pinned (OpenSpec.upto actOnlySpec)

/-- 'cordonlaw21.ActPlain', WHERE WHAT IT READS IS OF BULK AT MOST 1048576: true; the input reads as it did. -/
def actPlainUptoRow : OpenClaim := { program := "ytelholihncbfkaa", sum := "661b987b4924e026c5e92df8ab8cac62061fb2dee09d5d1b928210db905e3016", func := "cordon/cordonlaw21.ActPlain", spec := "actPlain", apart := false, narrowed := true }
def ActPlainUptoSaid : Prop := actPlainUptoRow.holds Try.pinned (OpenSpec.upto actPlainSpec)

end Rows
end Go.Proofs.Ytelholihncbfkaa
