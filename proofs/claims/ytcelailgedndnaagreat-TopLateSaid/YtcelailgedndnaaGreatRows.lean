/-
  No cell of these rows narrows 'for every input' (looked for: loops, veiled, ifaces, maps, wideKeys, modest, calm, conditions, laid).
  DERIVED. THE GIVEN ROWS OF THIS SEAT. 6 by the template 'for every input the law returns true; each argument reads behind the call as it read before'; 0 by the template 'total and deterministic' (their statements: YtcelailgedndnaaGreatTotals.lean).
  GIVEN WITH THE SEED: the statements are not yours to turn. If you find one false, say at which input.
  Laid BY PROGRAM, IN A SANDBOX (cutbox-rows.mjs): the forced cells as the released guide's own fill.sh prints them over the translation 31d911cb8fb8185f… (all of the seat's roots in one cut). By AI agents, Wed Nov 11 2026. No macro, syntax, notation, axiom, sorry.
-/
import Derived.Test.YtcelailgedndnaaGreatChecked
import GoSem.Claim
import GoSem.ClaimJoined
import GoSem.ClaimMapViews
import Derived.JoinedTies
import Derived.KernelRfl
namespace Go.Proofs.YtcelailgedndnaaGreat
/- THE CELL 'sum', in the pinned program and in every row, IS THE sha256 OF THE DUMP (.gsa) THAT YtcelailgedndnaaGreatProg.lean LOADS. Nothing in Lean hashes anything: it is a label: what it is worth is what the hold of that sum in a sandbox is worth. -/
noncomputable def Tryz.pinned : Pinned := { name := "ytcelailgedndnaagreat", sum := "31d911cb8fb8185f4b879dbfd08f6490880f9834a0d5f39fbff56984d0f2ed8e", checked := Tryz.checked }
namespace Rows
def none {H : Type} : Left H := { results := [], args := [] }

/-- 'cordontop.TopLate': WHATEVER THE INPUT: true; the input reads as it did. -/
def topLateSpec : ChangeSpec := { name := "topLate", fn := fun _ => fun
  | [d1, d2, d3, d4] => { results := [.lit (.bool true)], args := [d1, d2, d3, d4] }
  | _ => none }
def topLateRow : OpenClaim := { program := "ytcelailgedndnaagreat", sum := "31d911cb8fb8185f4b879dbfd08f6490880f9834a0d5f39fbff56984d0f2ed8e", func := "cordon/cordontop.TopLate", spec := "topLate", inPlace := ["maps.clone"], unfollowed := true, recurses := true, plainKeys := false, apart := false }
def TopLateSaid : Prop := topLateRow.holds Tryz.pinned (OpenSpec.ofChange topLateSpec)

/-- ITS FALSE NEIGHBOUR: 'it returns false'. Refute it at one input. -/
def topLateWrong : ChangeSpec := { name := "topLate", fn := fun _ => fun
  | [d1, d2, d3, d4] => { results := [.lit (.bool false)], args := [d1, d2, d3, d4] }
  | _ => none }
def TopLateWrongFalsely : Prop := topLateRow.holds Tryz.pinned (OpenSpec.ofChange topLateWrong)

/-- 'cordontop.TopFed': WHATEVER THE INPUT: true; the input reads as it did. -/
def topFedSpec : ChangeSpec := { name := "topFed", fn := fun _ => fun
  | [d1, d2] => { results := [.lit (.bool true)], args := [d1, d2] }
  | _ => none }
def topFedRow : OpenClaim := { program := "ytcelailgedndnaagreat", sum := "31d911cb8fb8185f4b879dbfd08f6490880f9834a0d5f39fbff56984d0f2ed8e", func := "cordon/cordontop.TopFed", spec := "topFed", inPlace := ["maps.clone"], unfollowed := true, recurses := true, plainKeys := false, apart := false }
def TopFedSaid : Prop := topFedRow.holds Tryz.pinned (OpenSpec.ofChange topFedSpec)

/-- ITS FALSE NEIGHBOUR: 'it returns false'. Refute it at one input. -/
def topFedWrong : ChangeSpec := { name := "topFed", fn := fun _ => fun
  | [d1, d2] => { results := [.lit (.bool false)], args := [d1, d2] }
  | _ => none }
def TopFedWrongFalsely : Prop := topFedRow.holds Tryz.pinned (OpenSpec.ofChange topFedWrong)

/-- 'cordontop.TopLabels': WHATEVER THE INPUT: true; the input reads as it did. -/
def topLabelsSpec : ChangeSpec := { name := "topLabels", fn := fun _ => fun
  | [d1, d2] => { results := [.lit (.bool true)], args := [d1, d2] }
  | _ => none }
def topLabelsRow : OpenClaim := { program := "ytcelailgedndnaagreat", sum := "31d911cb8fb8185f4b879dbfd08f6490880f9834a0d5f39fbff56984d0f2ed8e", func := "cordon/cordontop.TopLabels", spec := "topLabels", inPlace := ["maps.clone"], unfollowed := true, recurses := true, plainKeys := false, apart := false }
def TopLabelsSaid : Prop := topLabelsRow.holds Tryz.pinned (OpenSpec.ofChange topLabelsSpec)

/-- ITS FALSE NEIGHBOUR: 'it returns false'. Refute it at one input. -/
def topLabelsWrong : ChangeSpec := { name := "topLabels", fn := fun _ => fun
  | [d1, d2] => { results := [.lit (.bool false)], args := [d1, d2] }
  | _ => none }
def TopLabelsWrongFalsely : Prop := topLabelsRow.holds Tryz.pinned (OpenSpec.ofChange topLabelsWrong)

/-- 'cordontop.TopRefused': WHATEVER THE INPUT: true; the input reads as it did. -/
def topRefusedSpec : ChangeSpec := { name := "topRefused", fn := fun _ => fun
  | [d1, d2, d3] => { results := [.lit (.bool true)], args := [d1, d2, d3] }
  | _ => none }
def topRefusedRow : OpenClaim := { program := "ytcelailgedndnaagreat", sum := "31d911cb8fb8185f4b879dbfd08f6490880f9834a0d5f39fbff56984d0f2ed8e", func := "cordon/cordontop.TopRefused", spec := "topRefused", inPlace := ["maps.clone"], unfollowed := true, recurses := true, plainKeys := false, apart := false }
def TopRefusedSaid : Prop := topRefusedRow.holds Tryz.pinned (OpenSpec.ofChange topRefusedSpec)

/-- ITS FALSE NEIGHBOUR: 'it returns false'. Refute it at one input. -/
def topRefusedWrong : ChangeSpec := { name := "topRefused", fn := fun _ => fun
  | [d1, d2, d3] => { results := [.lit (.bool false)], args := [d1, d2, d3] }
  | _ => none }
def TopRefusedWrongFalsely : Prop := topRefusedRow.holds Tryz.pinned (OpenSpec.ofChange topRefusedWrong)

/-- 'cordontop.TopOnce': WHATEVER THE INPUT: true; the input reads as it did. -/
def topOnceSpec : ChangeSpec := { name := "topOnce", fn := fun _ => fun
  | [d1, d2, d3, d4, d5] => { results := [.lit (.bool true)], args := [d1, d2, d3, d4, d5] }
  | _ => none }
def topOnceRow : OpenClaim := { program := "ytcelailgedndnaagreat", sum := "31d911cb8fb8185f4b879dbfd08f6490880f9834a0d5f39fbff56984d0f2ed8e", func := "cordon/cordontop.TopOnce", spec := "topOnce", inPlace := ["maps.clone"], unfollowed := true, recurses := true, plainKeys := false, apart := false }
def TopOnceSaid : Prop := topOnceRow.holds Tryz.pinned (OpenSpec.ofChange topOnceSpec)

/-- ITS FALSE NEIGHBOUR: 'it returns false'. Refute it at one input. -/
def topOnceWrong : ChangeSpec := { name := "topOnce", fn := fun _ => fun
  | [d1, d2, d3, d4, d5] => { results := [.lit (.bool false)], args := [d1, d2, d3, d4, d5] }
  | _ => none }
def TopOnceWrongFalsely : Prop := topOnceRow.holds Tryz.pinned (OpenSpec.ofChange topOnceWrong)

/-- 'cordontop.TopPrefix': WHATEVER THE INPUT: true; the input reads as it did. -/
def topPrefixSpec : ChangeSpec := { name := "topPrefix", fn := fun _ => fun
  | [d1, d2, d3] => { results := [.lit (.bool true)], args := [d1, d2, d3] }
  | _ => none }
def topPrefixRow : OpenClaim := { program := "ytcelailgedndnaagreat", sum := "31d911cb8fb8185f4b879dbfd08f6490880f9834a0d5f39fbff56984d0f2ed8e", func := "cordon/cordontop.TopPrefix", spec := "topPrefix", inPlace := ["maps.clone"], unfollowed := true, recurses := true, plainKeys := false, apart := false }
def TopPrefixSaid : Prop := topPrefixRow.holds Tryz.pinned (OpenSpec.ofChange topPrefixSpec)

/-- ITS FALSE NEIGHBOUR: 'it returns false'. Refute it at one input. -/
def topPrefixWrong : ChangeSpec := { name := "topPrefix", fn := fun _ => fun
  | [d1, d2, d3] => { results := [.lit (.bool false)], args := [d1, d2, d3] }
  | _ => none }
def TopPrefixWrongFalsely : Prop := topPrefixRow.holds Tryz.pinned (OpenSpec.ofChange topPrefixWrong)

/- THE SECOND FORM. 'bulk': how many values and letters a reading holds, each counted each time it is reached (what is shared counts as often as it is met; a slice's spare places count too). A statement '..UptoSaid' is the law's where the arguments, and the package variables that the reading takes, are together of bulk at most 1048576: NARROWER than '..Said'. Prove '..Said' where nothing that the law and all that it calls make is longer than what came in: it says more and counts as full. Else prove '..UptoSaid'. A law counts once. -/
mutual
def uptoBulk {H : Type} : DataW H → Nat
  | .lit (.string bytes) => bytes.length + 1
  | .lit _ => 1
  | .nil => 1
  | .ptr d => uptoBulk d + 1
  | .slice elems spare => uptoBulkAll elems + uptoBulkAll spare + 1
  | .agg parts => uptoBulkAll parts + 1
  | .iface _ d => uptoBulk d + 1
  | .map entries => uptoBulkEntries entries + 1
  | .held _ => 1
def uptoBulkAll {H : Type} : List (DataW H) → Nat
  | [] => 0
  | d :: r => uptoBulk d + uptoBulkAll r
def uptoBulkEntries {H : Type} : List (Lit × DataW H) → Nat
  | [] => 0
  | x :: r => uptoBulkEntry x + uptoBulkEntries r
def uptoBulkEntry {H : Type} : Lit × DataW H → Nat
  | (.string bytes, d) => bytes.length + uptoBulk d + 1
  | (_, d) => uptoBulk d + 1
 end
def uptoSmall : (H : Type) → List (DataW H) → Bool := fun _ ds => decide (uptoBulkAll ds ≤ 1048576)
def OpenSpec.upto (s : _root_.Go.ChangeSpec) : _root_.Go.OpenSpec := { _root_.Go.OpenSpec.ofChange s with cond := some uptoSmall }

/-- 'cordontop.TopLate', WHERE WHAT IT READS IS OF BULK AT MOST 1048576: true; the input reads as it did. -/
def topLateUptoRow : OpenClaim := { program := "ytcelailgedndnaagreat", sum := "31d911cb8fb8185f4b879dbfd08f6490880f9834a0d5f39fbff56984d0f2ed8e", func := "cordon/cordontop.TopLate", spec := "topLate", inPlace := ["maps.clone"], unfollowed := true, recurses := true, plainKeys := false, apart := false, narrowed := true }
def TopLateUptoSaid : Prop := topLateUptoRow.holds Tryz.pinned (OpenSpec.upto topLateSpec)

/-- 'cordontop.TopFed', WHERE WHAT IT READS IS OF BULK AT MOST 1048576: true; the input reads as it did. -/
def topFedUptoRow : OpenClaim := { program := "ytcelailgedndnaagreat", sum := "31d911cb8fb8185f4b879dbfd08f6490880f9834a0d5f39fbff56984d0f2ed8e", func := "cordon/cordontop.TopFed", spec := "topFed", inPlace := ["maps.clone"], unfollowed := true, recurses := true, plainKeys := false, apart := false, narrowed := true }
def TopFedUptoSaid : Prop := topFedUptoRow.holds Tryz.pinned (OpenSpec.upto topFedSpec)

/-- 'cordontop.TopLabels', WHERE WHAT IT READS IS OF BULK AT MOST 1048576: true; the input reads as it did. -/
def topLabelsUptoRow : OpenClaim := { program := "ytcelailgedndnaagreat", sum := "31d911cb8fb8185f4b879dbfd08f6490880f9834a0d5f39fbff56984d0f2ed8e", func := "cordon/cordontop.TopLabels", spec := "topLabels", inPlace := ["maps.clone"], unfollowed := true, recurses := true, plainKeys := false, apart := false, narrowed := true }
def TopLabelsUptoSaid : Prop := topLabelsUptoRow.holds Tryz.pinned (OpenSpec.upto topLabelsSpec)

/-- 'cordontop.TopRefused', WHERE WHAT IT READS IS OF BULK AT MOST 1048576: true; the input reads as it did. -/
def topRefusedUptoRow : OpenClaim := { program := "ytcelailgedndnaagreat", sum := "31d911cb8fb8185f4b879dbfd08f6490880f9834a0d5f39fbff56984d0f2ed8e", func := "cordon/cordontop.TopRefused", spec := "topRefused", inPlace := ["maps.clone"], unfollowed := true, recurses := true, plainKeys := false, apart := false, narrowed := true }
def TopRefusedUptoSaid : Prop := topRefusedUptoRow.holds Tryz.pinned (OpenSpec.upto topRefusedSpec)

/-- 'cordontop.TopOnce', WHERE WHAT IT READS IS OF BULK AT MOST 1048576: true; the input reads as it did. -/
def topOnceUptoRow : OpenClaim := { program := "ytcelailgedndnaagreat", sum := "31d911cb8fb8185f4b879dbfd08f6490880f9834a0d5f39fbff56984d0f2ed8e", func := "cordon/cordontop.TopOnce", spec := "topOnce", inPlace := ["maps.clone"], unfollowed := true, recurses := true, plainKeys := false, apart := false, narrowed := true }
def TopOnceUptoSaid : Prop := topOnceUptoRow.holds Tryz.pinned (OpenSpec.upto topOnceSpec)

/-- 'cordontop.TopPrefix', WHERE WHAT IT READS IS OF BULK AT MOST 1048576: true; the input reads as it did. -/
def topPrefixUptoRow : OpenClaim := { program := "ytcelailgedndnaagreat", sum := "31d911cb8fb8185f4b879dbfd08f6490880f9834a0d5f39fbff56984d0f2ed8e", func := "cordon/cordontop.TopPrefix", spec := "topPrefix", inPlace := ["maps.clone"], unfollowed := true, recurses := true, plainKeys := false, apart := false, narrowed := true }
def TopPrefixUptoSaid : Prop := topPrefixUptoRow.holds Tryz.pinned (OpenSpec.upto topPrefixSpec)

end Rows
end Go.Proofs.YtcelailgedndnaaGreat
