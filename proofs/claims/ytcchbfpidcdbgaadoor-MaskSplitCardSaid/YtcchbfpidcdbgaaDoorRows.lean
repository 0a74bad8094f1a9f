/-
  NARROWER THAN 'FOR EVERY INPUT', by the rows' own cells (each row's printed sentence says how): MaskRuns: laid · MaskTells: laid · MaskOrder: laid · MaskCounts: laid · MaskLess: laid · MaskSplit: laid.
  DERIVED. THE GIVEN ROWS OF THIS SEAT. 6 by the template 'for every input the law returns true; each argument reads behind the call as it read before'; 0 by the template 'total and deterministic' (their statements: YtcchbfpidcdbgaaDoorTotals.lean).
  GIVEN WITH THE SEED: the statements are not yours to turn. If you find one false, say at which input.
  Laid BY PROGRAM, IN A SANDBOX (cutbox-rows.mjs): the forced cells as the released guide's own fill.sh prints them over the translation ff8a26cd816f0146… (all of the seat's roots in one cut). By AI agents, Wed Nov 11 2026. No macro, syntax, notation, axiom, sorry.
-/
import Derived.Test.YtcchbfpidcdbgaaDoorChecked
import GoSem.Claim
import GoSem.ClaimJoined
import GoSem.ClaimMapViews
import Derived.JoinedTies
import Derived.KernelRfl
namespace Go.Proofs.YtcchbfpidcdbgaaDoor
/- THE CELL 'sum', in the pinned program and in every row, IS THE sha256 OF THE DUMP (.gsa) THAT YtcchbfpidcdbgaaDoorProg.lean LOADS. Nothing in Lean hashes anything: it is a label: what it is worth is what the hold of that sum in a sandbox is worth. -/
noncomputable def Tryd.pinned : Pinned := { name := "ytcchbfpidcdbgaadoor", sum := "ff8a26cd816f01469ef6725fe457ff75119fb753754b563a63fefea4d645914e", checked := Tryd.checked }
namespace Rows
def none {H : Type} : Left H := { results := [], args := [] }

/- WHAT THE LISTED PACKAGE-LEVEL VARIABLES READ AS WHEN THE CALL BEGINS. Each datum BY PROGRAM (the guide's laid-datum.mjs) off the statement by which the dump's own 'gosem.cut.vars' lays the variable. In a bare row this is a premise. The card (YtcchbfpidcdbgaaDoorCards.lean) ties it to the program's text. -/
def laid_math_bits_deBruijn64tab {H : Type} : DataW H := .agg [.lit (.int .u8 0), .lit (.int .u8 1), .lit (.int .u8 56), .lit (.int .u8 2), .lit (.int .u8 57), .lit (.int .u8 49), .lit (.int .u8 28), .lit (.int .u8 3), .lit (.int .u8 61), .lit (.int .u8 58), .lit (.int .u8 42), .lit (.int .u8 50), .lit (.int .u8 38), .lit (.int .u8 29), .lit (.int .u8 17), .lit (.int .u8 4), .lit (.int .u8 62), .lit (.int .u8 47), .lit (.int .u8 59), .lit (.int .u8 36), .lit (.int .u8 45), .lit (.int .u8 43), .lit (.int .u8 51), .lit (.int .u8 22), .lit (.int .u8 53), .lit (.int .u8 39), .lit (.int .u8 33), .lit (.int .u8 30), .lit (.int .u8 24), .lit (.int .u8 18), .lit (.int .u8 12), .lit (.int .u8 5), .lit (.int .u8 63), .lit (.int .u8 55), .lit (.int .u8 48), .lit (.int .u8 27), .lit (.int .u8 60), .lit (.int .u8 41), .lit (.int .u8 37), .lit (.int .u8 16), .lit (.int .u8 46), .lit (.int .u8 35), .lit (.int .u8 44), .lit (.int .u8 21), .lit (.int .u8 52), .lit (.int .u8 32), .lit (.int .u8 23), .lit (.int .u8 11), .lit (.int .u8 54), .lit (.int .u8 26), .lit (.int .u8 40), .lit (.int .u8 15), .lit (.int .u8 34), .lit (.int .u8 20), .lit (.int .u8 31), .lit (.int .u8 10), .lit (.int .u8 25), .lit (.int .u8 14), .lit (.int .u8 19), .lit (.int .u8 9), .lit (.int .u8 13), .lit (.int .u8 8), .lit (.int .u8 7), .lit (.int .u8 6)]

/-- 'cordonlaw1.MaskRuns': WHATEVER THE INPUT: true; the input reads as it did. -/
def maskRunsSpec : ChangeSpec := { name := "maskRuns", fn := fun _ => fun
  | [] => { results := [.lit (.bool true)], args := [] }
  | _ => none }
def maskRunsRow : OpenClaim := { program := "ytcchbfpidcdbgaadoor", sum := "ff8a26cd816f01469ef6725fe457ff75119fb753754b563a63fefea4d645914e", func := "cordon/cordonlaw1.MaskRuns", spec := "maskRuns", named := ["math/bits.deBruijn64tab"], apart := false, laid := [("math/bits.deBruijn64tab", laid_math_bits_deBruijn64tab)] }
def MaskRunsSaid : Prop := maskRunsRow.holds Tryd.pinned (OpenSpec.ofChange maskRunsSpec)

/-- ITS FALSE NEIGHBOUR: 'it returns false'. Refute it at one input. -/
def maskRunsWrong : ChangeSpec := { name := "maskRuns", fn := fun _ => fun
  | [] => { results := [.lit (.bool false)], args := [] }
  | _ => none }
def MaskRunsWrongFalsely : Prop := maskRunsRow.holds Tryd.pinned (OpenSpec.ofChange maskRunsWrong)

/-- 'cordonlaw1.MaskTells': WHATEVER THE INPUT: true; the input reads as it did. -/
def maskTellsSpec : ChangeSpec := { name := "maskTells", fn := fun _ => fun
  | [d1, d2, d3] => { results := [.lit (.bool true)], args := [d1, d2, d3] }
  | _ => none }
def maskTellsRow : OpenClaim := { program := "ytcchbfpidcdbgaadoor", sum := "ff8a26cd816f01469ef6725fe457ff75119fb753754b563a63fefea4d645914e", func := "cordon/cordonlaw1.MaskTells", spec := "maskTells", named := ["math/bits.deBruijn64tab"], apart := false, laid := [("math/bits.deBruijn64tab", laid_math_bits_deBruijn64tab)] }
def MaskTellsSaid : Prop := maskTellsRow.holds Tryd.pinned (OpenSpec.ofChange maskTellsSpec)

/-- ITS FALSE NEIGHBOUR: 'it returns false'. Refute it at one input. -/
def maskTellsWrong : ChangeSpec := { name := "maskTells", fn := fun _ => fun
  | [d1, d2, d3] => { results := [.lit (.bool false)], args := [d1, d2, d3] }
  | _ => none }
def MaskTellsWrongFalsely : Prop := maskTellsRow.holds Tryd.pinned (OpenSpec.ofChange maskTellsWrong)

/-- 'cordonlaw1.MaskOrder': WHATEVER THE INPUT: true; the input reads as it did. -/
def maskOrderSpec : ChangeSpec := { name := "maskOrder", fn := fun _ => fun
  | [d1, d2, d3] => { results := [.lit (.bool true)], args := [d1, d2, d3] }
  | _ => none }
def maskOrderRow : OpenClaim := { program := "ytcchbfpidcdbgaadoor", sum := "ff8a26cd816f01469ef6725fe457ff75119fb753754b563a63fefea4d645914e", func := "cordon/cordonlaw1.MaskOrder", spec := "maskOrder", named := ["math/bits.deBruijn64tab"], apart := false, laid := [("math/bits.deBruijn64tab", laid_math_bits_deBruijn64tab)] }
def MaskOrderSaid : Prop := maskOrderRow.holds Tryd.pinned (OpenSpec.ofChange maskOrderSpec)

/-- ITS FALSE NEIGHBOUR: 'it returns false'. Refute it at one input. -/
def maskOrderWrong : ChangeSpec := { name := "maskOrder", fn := fun _ => fun
  | [d1, d2, d3] => { results := [.lit (.bool false)], args := [d1, d2, d3] }
  | _ => none }
def MaskOrderWrongFalsely : Prop := maskOrderRow.holds Tryd.pinned (OpenSpec.ofChange maskOrderWrong)

/-- 'cordonlaw1.MaskCounts': WHATEVER THE INPUT: true; the input reads as it did. -/
def maskCountsSpec : ChangeSpec := { name := "maskCounts", fn := fun _ => fun
  | [d1, d2, d3] => { results := [.lit (.bool true)], args := [d1, d2, d3] }
  | _ => none }
def maskCountsRow : OpenClaim := { program := "ytcchbfpidcdbgaadoor", sum := "ff8a26cd816f01469ef6725fe457ff75119fb753754b563a63fefea4d645914e", func := "cordon/cordonlaw1.MaskCounts", spec := "maskCounts", named := ["math/bits.deBruijn64tab"], apart := false, laid := [("math/bits.deBruijn64tab", laid_math_bits_deBruijn64tab)] }
def MaskCountsSaid : Prop := maskCountsRow.holds Tryd.pinned (OpenSpec.ofChange maskCountsSpec)

/-- ITS FALSE NEIGHBOUR: 'it returns false'. Refute it at one input. -/
def maskCountsWrong : ChangeSpec := { name := "maskCounts", fn := fun _ => fun
  | [d1, d2, d3] => { results := [.lit (.bool false)], args := [d1, d2, d3] }
  | _ => none }
def MaskCountsWrongFalsely : Prop := maskCountsRow.holds Tryd.pinned (OpenSpec.ofChange maskCountsWrong)

/-- 'cordonlaw1.MaskLess': WHATEVER THE INPUT: true; the input reads as it did. -/
def maskLessSpec : ChangeSpec := { name := "maskLess", fn := fun _ => fun
  | [d1, d2, d3, d4] => { results := [.lit (.bool true)], args := [d1, d2, d3, d4] }
  | _ => none }
def maskLessRow : OpenClaim := { program := "ytcchbfpidcdbgaadoor", sum := "ff8a26cd816f01469ef6725fe457ff75119fb753754b563a63fefea4d645914e", func := "cordon/cordonlaw1.MaskLess", spec := "maskLess", named := ["math/bits.deBruijn64tab"], apart := false, laid := [("math/bits.deBruijn64tab", laid_math_bits_deBruijn64tab)] }
def MaskLessSaid : Prop := maskLessRow.holds Tryd.pinned (OpenSpec.ofChange maskLessSpec)

/-- ITS FALSE NEIGHBOUR: 'it returns false'. Refute it at one input. -/
def maskLessWrong : ChangeSpec := { name := "maskLess", fn := fun _ => fun
  | [d1, d2, d3, d4] => { results := [.lit (.bool false)], args := [d1, d2, d3, d4] }
  | _ => none }
def MaskLessWrongFalsely : Prop := maskLessRow.holds Tryd.pinned (OpenSpec.ofChange maskLessWrong)

/-- 'cordonlaw1.MaskSplit': WHATEVER THE INPUT: true; the input reads as it did. -/
def maskSplitSpec : ChangeSpec := { name := "maskSplit", fn := fun _ => fun
  | [d1, d2] => { results := [.lit (.bool true)], args := [d1, d2] }
  | _ => none }
def maskSplitRow : OpenClaim := { program := "ytcchbfpidcdbgaadoor", sum := "ff8a26cd816f01469ef6725fe457ff75119fb753754b563a63fefea4d645914e", func := "cordon/cordonlaw1.MaskSplit", spec := "maskSplit", named := ["math/bits.deBruijn64tab"], apart := false, laid := [("math/bits.deBruijn64tab", laid_math_bits_deBruijn64tab)] }
def MaskSplitSaid : Prop := maskSplitRow.holds Tryd.pinned (OpenSpec.ofChange maskSplitSpec)

/-- ITS FALSE NEIGHBOUR: 'it returns false'. Refute it at one input. -/
def maskSplitWrong : ChangeSpec := { name := "maskSplit", fn := fun _ => fun
  | [d1, d2] => { results := [.lit (.bool false)], args := [d1, d2] }
  | _ => none }
def MaskSplitWrongFalsely : Prop := maskSplitRow.holds Tryd.pinned (OpenSpec.ofChange maskSplitWrong)

/- THE SECOND FORM. 'bulk': how many values and letters a reading holds, each counted each time it is reached (what is shared counts as often as it is met; a slice's spare places count too). A statement '..UptoSaid' is the law's where the arguments, and the package variables that the reading takes, are together of bulk at most 1048576: NARROWER than '..Said'. Prove '..Said' where nothing that the law and all that it calls make is longer than what came in: it says more and counts as full. Else prove '..UptoSaid'. A law counts once. -/
mutual
def uptoBulk {H : Type} : DataW H → Nat
  | .lit (.string bytes) => bytes.length + 1
  | .lit _ => 1
  | .nil => 1
  | .ptr d => uptoBulk d + 1
  | .slice elems spare => uptoBulkAll elems + uptoBulkAll spare + 1
  | .agg parts => uptoBulkAll parts + 1
  | .iface _ d => uptoBulk d + 1
  | .map entries => uptoBulkEntries entries + 1
  | .held _ => 1
def uptoBulkAll {H : Type} : List (DataW H) → Nat
  | [] => 0
  | d :: r => uptoBulk d + uptoBulkAll r
def uptoBulkEntries {H : Type} : List (Lit × DataW H) → Nat
  | [] => 0
  | x :: r => uptoBulkEntry x + uptoBulkEntries r
def uptoBulkEntry {H : Type} : Lit × DataW H → Nat
  | (.string bytes, d) => bytes.length + uptoBulk d + 1
  | (_, d) => uptoBulk d + 1
 end
def uptoSmall : (H : Type) → List (DataW H) → Bool := fun _ ds => decide (uptoBulkAll ds ≤ 1048576)
def OpenSpec.upto (s : _root_.Go.ChangeSpec) : _root_.Go.OpenSpec := { _root_.Go.OpenSpec.ofChange s with cond := some uptoSmall }

/-- 'cordonlaw1.MaskRuns', WHERE WHAT IT READS IS OF BULK AT MOST 1048576: true; the input reads as it did. -/
def maskRunsUptoRow : OpenClaim := { program := "ytcchbfpidcdbgaadoor", sum := "ff8a26cd816f01469ef6725fe457ff75119fb753754b563a63fefea4d645914e", func := "cordon/cordonlaw1.MaskRuns", spec := "maskRuns", named := ["math/bits.deBruijn64tab"], apart := false, laid := [("math/bits.deBruijn64tab", laid_math_bits_deBruijn64tab)], narrowed := true }
def MaskRunsUptoSaid : Prop := maskRunsUptoRow.holds Tryd.pinned (OpenSpec.upto maskRunsSpec)

/-- 'cordonlaw1.MaskTells', WHERE WHAT IT READS IS OF BULK AT MOST 1048576: true; the input reads as it did. -/
def maskTellsUptoRow : OpenClaim := { program := "ytcchbfpidcdbgaadoor", sum := "ff8a26cd816f01469ef6725fe457ff75119fb753754b563a63fefea4d645914e", func := "cordon/cordonlaw1.MaskTells", spec := "maskTells", named := ["math/bits.deBruijn64tab"], apart := false, laid := [("math/bits.deBruijn64tab", laid_math_bits_deBruijn64tab)], narrowed := true }
def MaskTellsUptoSaid : Prop := maskTellsUptoRow.holds Tryd.pinned (OpenSpec.upto maskTellsSpec)

/-- 'cordonlaw1.MaskOrder', WHERE WHAT IT READS IS OF BULK AT MOST 1048576: true; the input reads as it did. -/
def maskOrderUptoRow : OpenClaim := { program := "ytcchbfpidcdbgaadoor", sum := "ff8a26cd816f01469ef6725fe457ff75119fb753754b563a63fefea4d645914e", func := "cordon/cordonlaw1.MaskOrder", spec := "maskOrder", named := ["math/bits.deBruijn64tab"], apart := false, laid := [("math/bits.deBruijn64tab", laid_math_bits_deBruijn64tab)], narrowed := true }
def MaskOrderUptoSaid : Prop := maskOrderUptoRow.holds Tryd.pinned (OpenSpec.upto maskOrderSpec)

/-- 'cordonlaw1.MaskCounts', WHERE WHAT IT READS IS OF BULK AT MOST 1048576: true; the input reads as it did. -/
def maskCountsUptoRow : OpenClaim := { program := "ytcchbfpidcdbgaadoor", sum := "ff8a26cd816f01469ef6725fe457ff75119fb753754b563a63fefea4d645914e", func := "cordon/cordonlaw1.MaskCounts", spec := "maskCounts", named := ["math/bits.deBruijn64tab"], apart := false, laid := [("math/bits.deBruijn64tab", laid_math_bits_deBruijn64tab)], narrowed := true }
def MaskCountsUptoSaid : Prop := maskCountsUptoRow.holds Tryd.pinned (OpenSpec.upto maskCountsSpec)

/-- 'cordonlaw1.MaskLess', WHERE WHAT IT READS IS OF BULK AT MOST 1048576: true; the input reads as it did. -/
def maskLessUptoRow : OpenClaim := { program := "ytcchbfpidcdbgaadoor", sum := "ff8a26cd816f01469ef6725fe457ff75119fb753754b563a63fefea4d645914e", func := "cordon/cordonlaw1.MaskLess", spec := "maskLess", named := ["math/bits.deBruijn64tab"], apart := false, laid := [("math/bits.deBruijn64tab", laid_math_bits_deBruijn64tab)], narrowed := true }
def MaskLessUptoSaid : Prop := maskLessUptoRow.holds Tryd.pinned (OpenSpec.upto maskLessSpec)

/-- 'cordonlaw1.MaskSplit', WHERE WHAT IT READS IS OF BULK AT MOST 1048576: true; the input reads as it did. -/
def maskSplitUptoRow : OpenClaim := { program := "ytcchbfpidcdbgaadoor", sum := "ff8a26cd816f01469ef6725fe457ff75119fb753754b563a63fefea4d645914e", func := "cordon/cordonlaw1.MaskSplit", spec := "maskSplit", named := ["math/bits.deBruijn64tab"], apart := false, laid := [("math/bits.deBruijn64tab", laid_math_bits_deBruijn64tab)], narrowed := true }
def MaskSplitUptoSaid : Prop := maskSplitUptoRow.holds Tryd.pinned (OpenSpec.upto maskSplitSpec)

end Rows
end Go.Proofs.YtcchbfpidcdbgaaDoor
