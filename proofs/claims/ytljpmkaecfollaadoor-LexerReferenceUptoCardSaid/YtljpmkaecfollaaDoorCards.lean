/-
  DERIVED. GIVEN WITH THE SEED: THE CARDS: each row of YtljpmkaecfollaaDoorRows.lean that lists a variable, with what it lists TIED to the program's text (the seventh form; the later family's looks); each row that meets fmt, with fmt's text TOLD by the authors' own Lean function (tested against real Go, not proved from fmt's source: count such statements apart). THE CARD IS WHAT COUNTS. Prove the row's statement (the work); the ties are given (YtljpmkaecfollaaDoorTie.lean); close each card by the builder's one call (the guide's Derived/Test/ToyasCard.lean, 'card_holds'). Laid BY PROGRAM, IN A SANDBOX (cutbox-door.mjs). By AI agents, Wed Nov 11 2026. No macro, syntax, notation, axiom, sorry.
-/
import Derived.Test.YtljpmkaecfollaaDoorRows
import GoSem.ClaimSeven
namespace Go.Proofs.YtljpmkaecfollaaDoor
namespace Rows

/-- THE TIED CARD OF 'glossatorlaw1.LexerReference'. -/
def lexerReferenceCard : Claim7 := { stood := { row := lexerReferenceRow, standIns := [], harness := (true, "36f9968798f14b27705e15b9dd2a0b1aa7df8bba27e8b607194cdc2ee075c1b1"), looks := false }, kinds := [], alts := [], laidByText := true, laidKinds := [.listed, .data], laidTests := true, laidLooks := .later }
def LexerReferenceCardSaid : Prop := Claim7.holds Tryd.pinned (.plain (OpenSpec.ofChange lexerReferenceSpec)) lexerReferenceCard

/-- THE SECOND FORM's CARD OF 'glossatorlaw1.LexerReference'. -/
def lexerReferenceUptoCard : Claim7 := { stood := { row := lexerReferenceUptoRow, standIns := [], harness := (true, "36f9968798f14b27705e15b9dd2a0b1aa7df8bba27e8b607194cdc2ee075c1b1"), looks := false }, kinds := [], alts := [], laidByText := true, laidKinds := [.listed, .data], laidTests := true, laidLooks := .later }
def LexerReferenceUptoCardSaid : Prop := Claim7.holds Tryd.pinned (.plain (OpenSpec.upto lexerReferenceSpec)) lexerReferenceUptoCard
end Rows
end Go.Proofs.YtljpmkaecfollaaDoor
