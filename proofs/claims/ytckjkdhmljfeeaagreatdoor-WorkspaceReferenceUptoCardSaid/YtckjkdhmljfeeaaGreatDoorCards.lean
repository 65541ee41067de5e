/-
  DERIVED. GIVEN WITH THE SEED: THE CARDS: each row of YtckjkdhmljfeeaaGreatDoorRows.lean that lists a variable, with what it lists TIED to the program's text (the seventh form; the later family's looks); each row that meets fmt, with fmt's text TOLD by the authors' own Lean function (tested against real Go, not proved from fmt's source: count such statements apart). THE CARD IS WHAT COUNTS. Prove the row's statement (the work); the ties are given (YtckjkdhmljfeeaaGreatDoorTie.lean); close each card by the builder's one call (the guide's Derived/Test/ToyasCard.lean, 'card_holds'). Laid BY PROGRAM, IN A SANDBOX (cutbox-door.mjs). By AI agents, Wed Nov 11 2026. No macro, syntax, notation, axiom, sorry.
-/
import Derived.Test.YtckjkdhmljfeeaaGreatDoorRows
import GoSem.ClaimSeven
namespace Go.Proofs.YtckjkdhmljfeeaaGreatDoor
namespace Rows

/-- THE TIED CARD OF 'glossatorlaw1.RelexReference'. -/
def relexReferenceCard : Claim7 := { stood := { row := relexReferenceRow, standIns := [], harness := (true, "e58592f5935793791826c7fb72de455c9f4a694e5d4d3866ce6c9f6b036f5106"), looks := true }, kinds := [], alts := [], laidByText := true, laidKinds := [.listed, .data], laidTests := true, laidLooks := .later }
def RelexReferenceCardSaid : Prop := Claim7.holds Tryz.pinned (.plain (OpenSpec.ofChange relexReferenceSpec)) relexReferenceCard

/-- THE TIED CARD OF 'glossatorkeep2.DivergingBlockStaysDiverging'. -/
def divergingBlockStaysDivergingCard : Claim7 := { stood := { row := divergingBlockStaysDivergingRow, standIns := [], harness := (true, "e58592f5935793791826c7fb72de455c9f4a694e5d4d3866ce6c9f6b036f5106"), looks := true }, kinds := [], alts := [], laidByText := true, laidKinds := [.data, .data, .data, .sentinel, .sentinel, .listed, .data], laidTests := true, laidLooks := .later }
def DivergingBlockStaysDivergingCardSaid : Prop := Claim7.holds Tryz.pinned (.plain (OpenSpec.ofChange divergingBlockStaysDivergingSpec)) divergingBlockStaysDivergingCard

/-- THE TIED CARD OF 'glossatorlaw2.DivergesMatchesReference'. -/
def divergesMatchesReferenceCard : Claim7 := { stood := { row := divergesMatchesReferenceRow, standIns := [], harness := (true, "e58592f5935793791826c7fb72de455c9f4a694e5d4d3866ce6c9f6b036f5106"), looks := true }, kinds := [], alts := [], laidByText := true, laidKinds := [.data, .data, .data, .sentinel, .sentinel, .listed, .data], laidTests := true, laidLooks := .later }
def DivergesMatchesReferenceCardSaid : Prop := Claim7.holds Tryz.pinned (.plain (OpenSpec.ofChange divergesMatchesReferenceSpec)) divergesMatchesReferenceCard

/-- THE TIED CARD OF 'glossatorlaw1.WorkspaceReference'. -/
def workspaceReferenceCard : Claim7 := { stood := { row := workspaceReferenceRow, standIns := [], harness := (true, "e58592f5935793791826c7fb72de455c9f4a694e5d4d3866ce6c9f6b036f5106"), looks := true }, kinds := [], alts := [], laidByText := true, laidKinds := [.data, .data, .data, .sentinel, .sentinel, .listed, .data], laidTests := true, laidLooks := .later }
def WorkspaceReferenceCardSaid : Prop := Claim7.holds Tryz.pinned (.plain (OpenSpec.ofChange workspaceReferenceSpec)) workspaceReferenceCard

/-- THE SECOND FORM's CARD OF 'glossatorlaw1.RelexReference'. -/
def relexReferenceUptoCard : Claim7 := { stood := { row := relexReferenceUptoRow, standIns := [], harness := (true, "e58592f5935793791826c7fb72de455c9f4a694e5d4d3866ce6c9f6b036f5106"), looks := true }, kinds := [], alts := [], laidByText := true, laidKinds := [.listed, .data], laidTests := true, laidLooks := .later }
def RelexReferenceUptoCardSaid : Prop := Claim7.holds Tryz.pinned (.plain (OpenSpec.upto relexReferenceSpec)) relexReferenceUptoCard

/-- THE SECOND FORM's CARD OF 'glossatorkeep2.DivergingBlockStaysDiverging'. -/
def divergingBlockStaysDivergingUptoCard : Claim7 := { stood := { row := divergingBlockStaysDivergingUptoRow, standIns := [], harness := (true, "e58592f5935793791826c7fb72de455c9f4a694e5d4d3866ce6c9f6b036f5106"), looks := true }, kinds := [], alts := [], laidByText := true, laidKinds := [.data, .data, .data, .sentinel, .sentinel, .listed, .data], laidTests := true, laidLooks := .later }
def DivergingBlockStaysDivergingUptoCardSaid : Prop := Claim7.holds Tryz.pinned (.plain (OpenSpec.upto divergingBlockStaysDivergingSpec)) divergingBlockStaysDivergingUptoCard

/-- THE SECOND FORM's CARD OF 'glossatorlaw2.DivergesMatchesReference'. -/
def divergesMatchesReferenceUptoCard : Claim7 := { stood := { row := divergesMatchesReferenceUptoRow, standIns := [], harness := (true, "e58592f5935793791826c7fb72de455c9f4a694e5d4d3866ce6c9f6b036f5106"), looks := true }, kinds := [], alts := [], laidByText := true, laidKinds := [.data, .data, .data, .sentinel, .sentinel, .listed, .data], laidTests := true, laidLooks := .later }
def DivergesMatchesReferenceUptoCardSaid : Prop := Claim7.holds Tryz.pinned (.plain (OpenSpec.upto divergesMatchesReferenceSpec)) divergesMatchesReferenceUptoCard

/-- THE SECOND FORM's CARD OF 'glossatorlaw1.WorkspaceReference'. -/
def workspaceReferenceUptoCard : Claim7 := { stood := { row := workspaceReferenceUptoRow, standIns := [], harness := (true, "e58592f5935793791826c7fb72de455c9f4a694e5d4d3866ce6c9f6b036f5106"), looks := true }, kinds := [], alts := [], laidByText := true, laidKinds := [.data, .data, .data, .sentinel, .sentinel, .listed, .data], laidTests := true, laidLooks := .later }
def WorkspaceReferenceUptoCardSaid : Prop := Claim7.holds Tryz.pinned (.plain (OpenSpec.upto workspaceReferenceSpec)) workspaceReferenceUptoCard
end Rows
end Go.Proofs.YtckjkdhmljfeeaaGreatDoor
