/-
  DERIVED. GIVEN WITH THE SEED: THE CARDS: each row of YtffhbdgoikkngaaDoorRows.lean that lists a variable, with what it lists TIED to the program's text (the seventh form; the later family's looks); each row that meets fmt, with fmt's text TOLD by the authors' own Lean function (tested against real Go, not proved from fmt's source: count such statements apart). THE CARD IS WHAT COUNTS. Prove the row's statement (the work); the ties are given (YtffhbdgoikkngaaDoorTie.lean); close each card by the builder's one call (the guide's Derived/Test/ToyasCard.lean, 'card_holds'). Laid BY PROGRAM, IN A SANDBOX (cutbox-door.mjs). By AI agents, Wed Nov 11 2026. No macro, syntax, notation, axiom, sorry.
-/
import Derived.Test.YtffhbdgoikkngaaDoorRows
import GoSem.ClaimSeven
namespace Go.Proofs.YtffhbdgoikkngaaDoor
namespace Rows

/-- THE TIED CARD OF 'cordonlaw17.SinkCopies'. -/
def sinkCopiesCard : Claim7 := { stood := { row := sinkCopiesRow, standIns := [], harness := (true, "2e07efd6d72786a4e56ca9dd193a732826963f676c8edec644b3ce7459f78e27"), looks := false }, kinds := [], alts := [], laidByText := true, laidKinds := [.data], laidTests := true, laidLooks := .later }
def SinkCopiesCardSaid : Prop := Claim7.holds Tryd.pinned (.plain (OpenSpec.ofChange sinkCopiesSpec)) sinkCopiesCard

/-- THE SECOND FORM's CARD OF 'cordonlaw17.SinkCopies'. -/
def sinkCopiesUptoCard : Claim7 := { stood := { row := sinkCopiesUptoRow, standIns := [], harness := (true, "2e07efd6d72786a4e56ca9dd193a732826963f676c8edec644b3ce7459f78e27"), looks := false }, kinds := [], alts := [], laidByText := true, laidKinds := [.data], laidTests := true, laidLooks := .later }
def SinkCopiesUptoCardSaid : Prop := Claim7.holds Tryd.pinned (.plain (OpenSpec.upto sinkCopiesSpec)) sinkCopiesUptoCard
end Rows
end Go.Proofs.YtffhbdgoikkngaaDoor
