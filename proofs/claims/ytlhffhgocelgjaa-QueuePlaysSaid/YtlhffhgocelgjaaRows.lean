/-
  No cell of these rows narrows 'for every input' (looked for: loops, veiled, ifaces, maps, wideKeys, modest, calm, conditions, laid).
  DERIVED. THE GIVEN ROWS OF THIS SEAT. 5 by the template 'for every input the law returns true; each argument reads behind the call as it read before'; 0 by the template 'total and deterministic' (their statements: YtlhffhgocelgjaaTotals.lean).
  GIVEN WITH THE SEED: the statements are not yours to turn. If you find one false, say at which input.
  Laid BY PROGRAM, IN A SANDBOX (cutbox-rows.mjs): the forced cells as the released guide's own fill.sh prints them over the translation 7cf717e58462dc5f… (all of the seat's roots in one cut). By AI agents, Wed Nov 11 2026. No macro, syntax, notation, axiom, sorry.
-/
import Derived.Test.YtlhffhgocelgjaaChecked
import GoSem.Claim
import GoSem.ClaimJoined
import GoSem.ClaimMapViews
import Derived.JoinedTies
import Derived.KernelRfl
namespace Go.Proofs.Ytlhffhgocelgjaa
/- THE CELL 'sum', in the pinned program and in every row, IS THE sha256 OF THE DUMP (.gsa) THAT YtlhffhgocelgjaaProg.lean LOADS. Nothing in Lean hashes anything: it is a label: what it is worth is what the hold of that sum in a sandbox is worth. -/
noncomputable def Try.pinned : Pinned := { name := "ytlhffhgocelgjaa", sum := "7cf717e58462dc5fb48fa14e6d374a68ad230b4eb6a065051f02b4ad7a24b540", checked := Try.checked }
namespace Rows
def none {H : Type} : Left H := { results := [], args := [] }

/-- 'cordonlaw12.QueueRuns': WHATEVER THE INPUT: true; the input reads as it did. -/
def queueRunsSpec : ChangeSpec := { name := "queueRuns", fn := fun _ => fun
  | [] => { results := [.lit (.bool true)], args := [] }
  | _ => none }
def queueRunsRow : OpenClaim := { program := "ytlhffhgocelgjaa", sum := "7cf717e58462dc5fb48fa14e6d374a68ad230b4eb6a065051f02b4ad7a24b540", func := "cordon/cordonlaw12.QueueRuns", spec := "queueRuns", apart := false }
def QueueRunsSaid : Prop := queueRunsRow.holds Try.pinned (OpenSpec.ofChange queueRunsSpec)

/-- ITS FALSE NEIGHBOUR: 'it returns false'. Refute it at one input. -/
def queueRunsWrong : ChangeSpec := { name := "queueRuns", fn := fun _ => fun
  | [] => { results := [.lit (.bool false)], args := [] }
  | _ => none }
def QueueRunsWrongFalsely : Prop := queueRunsRow.holds Try.pinned (OpenSpec.ofChange queueRunsWrong)

/-- 'cordonlaw12.QueueParts': WHATEVER THE INPUT: true; the input reads as it did. -/
def queuePartsSpec : ChangeSpec := { name := "queueParts", fn := fun _ => fun
  | [d1, d2, d3, d4] => { results := [.lit (.bool true)], args := [d1, d2, d3, d4] }
  | _ => none }
def queuePartsRow : OpenClaim := { program := "ytlhffhgocelgjaa", sum := "7cf717e58462dc5fb48fa14e6d374a68ad230b4eb6a065051f02b4ad7a24b540", func := "cordon/cordonlaw12.QueueParts", spec := "queueParts", apart := false }
def QueuePartsSaid : Prop := queuePartsRow.holds Try.pinned (OpenSpec.ofChange queuePartsSpec)

/-- ITS FALSE NEIGHBOUR: 'it returns false'. Refute it at one input. -/
def queuePartsWrong : ChangeSpec := { name := "queueParts", fn := fun _ => fun
  | [d1, d2, d3, d4] => { results := [.lit (.bool false)], args := [d1, d2, d3, d4] }
  | _ => none }
def QueuePartsWrongFalsely : Prop := queuePartsRow.holds Try.pinned (OpenSpec.ofChange queuePartsWrong)

/-- 'cordonlaw12.QueueRooms': WHATEVER THE INPUT: true; the input reads as it did. -/
def queueRoomsSpec : ChangeSpec := { name := "queueRooms", fn := fun _ => fun
  | [d1, d2, d3] => { results := [.lit (.bool true)], args := [d1, d2, d3] }
  | _ => none }
def queueRoomsRow : OpenClaim := { program := "ytlhffhgocelgjaa", sum := "7cf717e58462dc5fb48fa14e6d374a68ad230b4eb6a065051f02b4ad7a24b540", func := "cordon/cordonlaw12.QueueRooms", spec := "queueRooms", apart := false }
def QueueRoomsSaid : Prop := queueRoomsRow.holds Try.pinned (OpenSpec.ofChange queueRoomsSpec)

/-- ITS FALSE NEIGHBOUR: 'it returns false'. Refute it at one input. -/
def queueRoomsWrong : ChangeSpec := { name := "queueRooms", fn := fun _ => fun
  | [d1, d2, d3] => { results := [.lit (.bool false)], args := [d1, d2, d3] }
  | _ => none }
def QueueRoomsWrongFalsely : Prop := queueRoomsRow.holds Try.pinned (OpenSpec.ofChange queueRoomsWrong)

/-- 'cordonlaw12.QueuePlays': WHATEVER THE INPUT: true; the input reads as it did. -/
def queuePlaysSpec : ChangeSpec := { name := "queuePlays", fn := fun _ => fun
  | [d] => { results := [.lit (.bool true)], args := [d] }
  | _ => none }
def queuePlaysRow : OpenClaim := { program := "ytlhffhgocelgjaa", sum := "7cf717e58462dc5fb48fa14e6d374a68ad230b4eb6a065051f02b4ad7a24b540", func := "cordon/cordonlaw12.QueuePlays", spec := "queuePlays", apart := false }
def QueuePlaysSaid : Prop := queuePlaysRow.holds Try.pinned (OpenSpec.ofChange queuePlaysSpec)

/-- ITS FALSE NEIGHBOUR: 'it returns false'. Refute it at one input. -/
def queuePlaysWrong : ChangeSpec := { name := "queuePlays", fn := fun _ => fun
  | [d] => { results := [.lit (.bool false)], args := [d] }
  | _ => none }
def QueuePlaysWrongFalsely : Prop := queuePlaysRow.holds Try.pinned (OpenSpec.ofChange queuePlaysWrong)

/-- 'cordonlaw12.QueueSplit': WHATEVER THE INPUT: true; the input reads as it did. -/
def queueSplitSpec : ChangeSpec := { name := "queueSplit", fn := fun _ => fun
  | [d1, d2, d3, d4] => { results := [.lit (.bool true)], args := [d1, d2, d3, d4] }
  | _ => none }
def queueSplitRow : OpenClaim := { program := "ytlhffhgocelgjaa", sum := "7cf717e58462dc5fb48fa14e6d374a68ad230b4eb6a065051f02b4ad7a24b540", func := "cordon/cordonlaw12.QueueSplit", spec := "queueSplit", apart := false }
def QueueSplitSaid : Prop := queueSplitRow.holds Try.pinned (OpenSpec.ofChange queueSplitSpec)

/-- ITS FALSE NEIGHBOUR: 'it returns false'. Refute it at one input. -/
def queueSplitWrong : ChangeSpec := { name := "queueSplit", fn := fun _ => fun
  | [d1, d2, d3, d4] => { results := [.lit (.bool false)], args := [d1, d2, d3, d4] }
  | _ => none }
def QueueSplitWrongFalsely : Prop := queueSplitRow.holds Try.pinned (OpenSpec.ofChange queueSplitWrong)

/- THE SECOND FORM. 'bulk': how many values and letters a reading holds, each counted each time it is reached (what is shared counts as often as it is met; a slice's spare places count too). A statement '..UptoSaid' is the law's where the arguments, and the package variables that the reading takes, are together of bulk at most 1048576: NARROWER than '..Said'. Prove '..Said' where nothing that the law and all that it calls make is longer than what came in: it says more and counts as full. Else prove '..UptoSaid'. A law counts once. -/
mutual
def uptoBulk {H : Type} : DataW H → Nat
  | .lit (.string bytes) => bytes.length + 1
  | .lit _ => 1
  | .nil => 1
  | .ptr d => uptoBulk d + 1
  | .slice elems spare => uptoBulkAll elems + uptoBulkAll spare + 1
  | .agg parts => uptoBulkAll parts + 1
  | .iface _ d => uptoBulk d + 1
  | .map entries => uptoBulkEntries entries + 1
  | .held _ => 1
def uptoBulkAll {H : Type} : List (DataW H) → Nat
  | [] => 0
  | d :: r => uptoBulk d + uptoBulkAll r
def uptoBulkEntries {H : Type} : List (Lit × DataW H) → Nat
  | [] => 0
  | x :: r => uptoBulkEntry x + uptoBulkEntries r
def uptoBulkEntry {H : Type} : Lit × DataW H → Nat
  | (.string bytes, d) => bytes.length + uptoBulk d + 1
  | (_, d) => uptoBulk d + 1
 end
def uptoSmall : (H : Type) → List (DataW H) → Bool := fun _ ds => decide (uptoBulkAll ds ≤ 1048576)
def OpenSpec.upto (s : _root_.Go.ChangeSpec) : _root_.Go.OpenSpec := { _root_.Go.OpenSpec.ofChange s with cond := some uptoSmall }

/-- 'cordonlaw12.QueueRuns', WHERE WHAT IT READS IS OF BULK AT MOST 1048576: true; the input reads as it did. -/
def queueRunsUptoRow : OpenClaim := { program := "ytlhffhgocelgjaa", sum := "7cf717e58462dc5fb48fa14e6d374a68ad230b4eb6a065051f02b4ad7a24b540", func := "cordon/cordonlaw12.QueueRuns", spec := "queueRuns", apart := false, narrowed := true }
def QueueRunsUptoSaid : Prop := queueRunsUptoRow.holds Try.pinned (OpenSpec.upto queueRunsSpec)

/-- 'cordonlaw12.QueueParts', WHERE WHAT IT READS IS OF BULK AT MOST 1048576: true; the input reads as it did. -/
def queuePartsUptoRow : OpenClaim := { program := "ytlhffhgocelgjaa", sum := "7cf717e58462dc5fb48fa14e6d374a68ad230b4eb6a065051f02b4ad7a24b540", func := "cordon/cordonlaw12.QueueParts", spec := "queueParts", apart := false, narrowed := true }
def QueuePartsUptoSaid : Prop := queuePartsUptoRow.holds Try.pinned (OpenSpec.upto queuePartsSpec)

/-- 'cordonlaw12.QueueRooms', WHERE WHAT IT READS IS OF BULK AT MOST 1048576: true; the input reads as it did. -/
def queueRoomsUptoRow : OpenClaim := { program := "ytlhffhgocelgjaa", sum := "7cf717e58462dc5fb48fa14e6d374a68ad230b4eb6a065051f02b4ad7a24b540", func := "cordon/cordonlaw12.QueueRooms", spec := "queueRooms", apart := false, narrowed := true }
def QueueRoomsUptoSaid : Prop := queueRoomsUptoRow.holds Try.pinned (OpenSpec.upto queueRoomsSpec)

/-- 'cordonlaw12.QueuePlays', WHERE WHAT IT READS IS OF BULK AT MOST 1048576: true; the input reads as it did. -/
def queuePlaysUptoRow : OpenClaim := { program := "ytlhffhgocelgjaa", sum := "7cf717e58462dc5fb48fa14e6d374a68ad230b4eb6a065051f02b4ad7a24b540", func := "cordon/cordonlaw12.QueuePlays", spec := "queuePlays", apart := false, narrowed := true }
def QueuePlaysUptoSaid : Prop := queuePlaysUptoRow.holds Try.pinned (OpenSpec.upto queuePlaysSpec)

/-- 'cordonlaw12.QueueSplit', WHERE WHAT IT READS IS OF BULK AT MOST 1048576: true; the input reads as it did. -/
def queueSplitUptoRow : OpenClaim := { program := "ytlhffhgocelgjaa", sum := "7cf717e58462dc5fb48fa14e6d374a68ad230b4eb6a065051f02b4ad7a24b540", func := "cordon/cordonlaw12.QueueSplit", spec := "queueSplit", apart := false, narrowed := true }
def QueueSplitUptoSaid : Prop := queueSplitUptoRow.holds Try.pinned (OpenSpec.upto queueSplitSpec)

end Rows
end Go.Proofs.Ytlhffhgocelgjaa
