/-
  DERIVED. GIVEN WITH THE SEED: THE CARDS: each row of YtcchbfpidcdbgaaDoorRows.lean that lists a variable, with what it lists TIED to the program's text (the seventh form; the later family's looks); each row that meets fmt, with fmt's text TOLD by the authors' own Lean function (tested against real Go, not proved from fmt's source: count such statements apart). THE CARD IS WHAT COUNTS. Prove the row's statement (the work); the ties are given (YtcchbfpidcdbgaaDoorTie.lean); close each card by the builder's one call (the guide's Derived/Test/ToyasCard.lean, 'card_holds'). Laid BY PROGRAM, IN A SANDBOX (cutbox-door.mjs). By AI agents, Wed Nov 11 2026. No macro, syntax, notation, axiom, sorry.
-/
import Derived.Test.YtcchbfpidcdbgaaDoorRows
import GoSem.ClaimSeven
namespace Go.Proofs.YtcchbfpidcdbgaaDoor
namespace Rows

/-- THE TIED CARD OF 'cordonlaw1.MaskRuns'. -/
def maskRunsCard : Claim7 := { stood := { row := maskRunsRow, standIns := [], harness := (true, "4f820db1ed8a40cce45cd2ce3f83bf58000842312152607563b8474815f36d60"), looks := false }, kinds := [], alts := [], laidByText := true, laidKinds := [.data], laidTests := true, laidLooks := .later }
def MaskRunsCardSaid : Prop := Claim7.holds Tryd.pinned (.plain (OpenSpec.ofChange maskRunsSpec)) maskRunsCard

/-- THE TIED CARD OF 'cordonlaw1.MaskTells'. -/
def maskTellsCard : Claim7 := { stood := { row := maskTellsRow, standIns := [], harness := (true, "4f820db1ed8a40cce45cd2ce3f83bf58000842312152607563b8474815f36d60"), looks := false }, kinds := [], alts := [], laidByText := true, laidKinds := [.data], laidTests := true, laidLooks := .later }
def MaskTellsCardSaid : Prop := Claim7.holds Tryd.pinned (.plain (OpenSpec.ofChange maskTellsSpec)) maskTellsCard

/-- THE TIED CARD OF 'cordonlaw1.MaskOrder'. -/
def maskOrderCard : Claim7 := { stood := { row := maskOrderRow, standIns := [], harness := (true, "4f820db1ed8a40cce45cd2ce3f83bf58000842312152607563b8474815f36d60"), looks := false }, kinds := [], alts := [], laidByText := true, laidKinds := [.data], laidTests := true, laidLooks := .later }
def MaskOrderCardSaid : Prop := Claim7.holds Tryd.pinned (.plain (OpenSpec.ofChange maskOrderSpec)) maskOrderCard

/-- THE TIED CARD OF 'cordonlaw1.MaskCounts'. -/
def maskCountsCard : Claim7 := { stood := { row := maskCountsRow, standIns := [], harness := (true, "4f820db1ed8a40cce45cd2ce3f83bf58000842312152607563b8474815f36d60"), looks := false }, kinds := [], alts := [], laidByText := true, laidKinds := [.data], laidTests := true, laidLooks := .later }
def MaskCountsCardSaid : Prop := Claim7.holds Tryd.pinned (.plain (OpenSpec.ofChange maskCountsSpec)) maskCountsCard

/-- THE TIED CARD OF 'cordonlaw1.MaskLess'. -/
def maskLessCard : Claim7 := { stood := { row := maskLessRow, standIns := [], harness := (true, "4f820db1ed8a40cce45cd2ce3f83bf58000842312152607563b8474815f36d60"), looks := false }, kinds := [], alts := [], laidByText := true, laidKinds := [.data], laidTests := true, laidLooks := .later }
def MaskLessCardSaid : Prop := Claim7.holds Tryd.pinned (.plain (OpenSpec.ofChange maskLessSpec)) maskLessCard

/-- THE TIED CARD OF 'cordonlaw1.MaskSplit'. -/
def maskSplitCard : Claim7 := { stood := { row := maskSplitRow, standIns := [], harness := (true, "4f820db1ed8a40cce45cd2ce3f83bf58000842312152607563b8474815f36d60"), looks := false }, kinds := [], alts := [], laidByText := true, laidKinds := [.data], laidTests := true, laidLooks := .later }
def MaskSplitCardSaid : Prop := Claim7.holds Tryd.pinned (.plain (OpenSpec.ofChange maskSplitSpec)) maskSplitCard

/-- THE SECOND FORM's CARD OF 'cordonlaw1.MaskRuns'. -/
def maskRunsUptoCard : Claim7 := { stood := { row := maskRunsUptoRow, standIns := [], harness := (true, "4f820db1ed8a40cce45cd2ce3f83bf58000842312152607563b8474815f36d60"), looks := false }, kinds := [], alts := [], laidByText := true, laidKinds := [.data], laidTests := true, laidLooks := .later }
def MaskRunsUptoCardSaid : Prop := Claim7.holds Tryd.pinned (.plain (OpenSpec.upto maskRunsSpec)) maskRunsUptoCard

/-- THE SECOND FORM's CARD OF 'cordonlaw1.MaskTells'. -/
def maskTellsUptoCard : Claim7 := { stood := { row := maskTellsUptoRow, standIns := [], harness := (true, "4f820db1ed8a40cce45cd2ce3f83bf58000842312152607563b8474815f36d60"), looks := false }, kinds := [], alts := [], laidByText := true, laidKinds := [.data], laidTests := true, laidLooks := .later }
def MaskTellsUptoCardSaid : Prop := Claim7.holds Tryd.pinned (.plain (OpenSpec.upto maskTellsSpec)) maskTellsUptoCard

/-- THE SECOND FORM's CARD OF 'cordonlaw1.MaskOrder'. -/
def maskOrderUptoCard : Claim7 := { stood := { row := maskOrderUptoRow, standIns := [], harness := (true, "4f820db1ed8a40cce45cd2ce3f83bf58000842312152607563b8474815f36d60"), looks := false }, kinds := [], alts := [], laidByText := true, laidKinds := [.data], laidTests := true, laidLooks := .later }
def MaskOrderUptoCardSaid : Prop := Claim7.holds Tryd.pinned (.plain (OpenSpec.upto maskOrderSpec)) maskOrderUptoCard

/-- THE SECOND FORM's CARD OF 'cordonlaw1.MaskCounts'. -/
def maskCountsUptoCard : Claim7 := { stood := { row := maskCountsUptoRow, standIns := [], harness := (true, "4f820db1ed8a40cce45cd2ce3f83bf58000842312152607563b8474815f36d60"), looks := false }, kinds := [], alts := [], laidByText := true, laidKinds := [.data], laidTests := true, laidLooks := .later }
def MaskCountsUptoCardSaid : Prop := Claim7.holds Tryd.pinned (.plain (OpenSpec.upto maskCountsSpec)) maskCountsUptoCard

/-- THE SECOND FORM's CARD OF 'cordonlaw1.MaskLess'. -/
def maskLessUptoCard : Claim7 := { stood := { row := maskLessUptoRow, standIns := [], harness := (true, "4f820db1ed8a40cce45cd2ce3f83bf58000842312152607563b8474815f36d60"), looks := false }, kinds := [], alts := [], laidByText := true, laidKinds := [.data], laidTests := true, laidLooks := .later }
def MaskLessUptoCardSaid : Prop := Claim7.holds Tryd.pinned (.plain (OpenSpec.upto maskLessSpec)) maskLessUptoCard

/-- THE SECOND FORM's CARD OF 'cordonlaw1.MaskSplit'. -/
def maskSplitUptoCard : Claim7 := { stood := { row := maskSplitUptoRow, standIns := [], harness := (true, "4f820db1ed8a40cce45cd2ce3f83bf58000842312152607563b8474815f36d60"), looks := false }, kinds := [], alts := [], laidByText := true, laidKinds := [.data], laidTests := true, laidLooks := .later }
def MaskSplitUptoCardSaid : Prop := Claim7.holds Tryd.pinned (.plain (OpenSpec.upto maskSplitSpec)) maskSplitUptoCard
end Rows
end Go.Proofs.YtcchbfpidcdbgaaDoor
