/-
  DERIVED. GIVEN WITH THE SEED: THE CARDS: each row of YtgphapkpoamcgaaDoorRows.lean that lists a variable, with what it lists TIED to the program's text (the seventh form; the later family's looks); each row that meets fmt, with fmt's text TOLD by the authors' own Lean function (tested against real Go, not proved from fmt's source: count such statements apart). THE CARD IS WHAT COUNTS. Prove the row's statement (the work); the ties are given (YtgphapkpoamcgaaDoorTie.lean); close each card by the builder's one call (the guide's Derived/Test/ToyasCard.lean, 'card_holds'). Laid BY PROGRAM, IN A SANDBOX (cutbox-door.mjs). By AI agents, Wed Nov 11 2026. No macro, syntax, notation, axiom, sorry.
-/
import Derived.Test.YtgphapkpoamcgaaDoorRows
import GoSem.ClaimSeven
namespace Go.Proofs.YtgphapkpoamcgaaDoor
namespace Rows

/-- THE TIED CARD OF 'glossatorlaw1.PositionReference'. -/
def positionReferenceCard : Claim7 := { stood := { row := positionReferenceRow, standIns := [], harness := (true, "8e1c61a179116149bff41619b87352e380a1df10aac7b8df9faf662d18867582"), looks := false }, kinds := [], alts := [], laidByText := true, laidKinds := [.data, .pinned], laidTests := true, laidLooks := .later }
def PositionReferenceCardSaid : Prop := Claim7.holds Tryd.pinned (.plain (OpenSpec.ofChange positionReferenceSpec)) positionReferenceCard

/-- THE SECOND FORM's CARD OF 'glossatorlaw1.PositionReference'. -/
def positionReferenceUptoCard : Claim7 := { stood := { row := positionReferenceUptoRow, standIns := [], harness := (true, "8e1c61a179116149bff41619b87352e380a1df10aac7b8df9faf662d18867582"), looks := false }, kinds := [], alts := [], laidByText := true, laidKinds := [.data, .pinned], laidTests := true, laidLooks := .later }
def PositionReferenceUptoCardSaid : Prop := Claim7.holds Tryd.pinned (.plain (OpenSpec.upto positionReferenceSpec)) positionReferenceUptoCard
end Rows
end Go.Proofs.YtgphapkpoamcgaaDoor
