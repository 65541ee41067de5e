/-
  NARROWER THAN 'FOR EVERY INPUT', by the rows' own cells (each row's printed sentence says how): SolveReturnsValidProof: loops · CheckProofRejectsOtherType: loops · SolveMatchesReference: loops · SolveWithMoreAssumptions: loops · NormalizeIsIdempotent: loops · NormalizeIsCompositional: loops · NormalizeMatchesReference: loops · ExhaustivenessMatchesReference: loops · AddingRowsPreservesExhaustiveness: loops · RemovingRedundantRows: loops · ExhaustivenessIgnoresRowOrder: loops · MissingRowIsUnmatched: loops · MatchesAgreesWithReference: loops · UnifyMatchesReference: loops · UnifyOrderIndependent: loops · UnifySolvesEquations: loops · UnifyMonotone: loops · UnifyMostGeneral: loops.
  DERIVED. THE GIVEN ROWS OF THIS SEAT. 18 by the template 'for every input the law returns true; each argument reads behind the call as it read before'; 0 by the template 'total and deterministic' (their statements: YtbdoblgofddhdaaTotals.lean).
  GIVEN WITH THE SEED: the statements are not yours to turn. If you find one false, say at which input.
  Laid BY PROGRAM, IN A SANDBOX (cutbox-rows.mjs): the forced cells as the released guide's own fill.sh prints them over the translation e89bd394114677ee… (all of the seat's roots in one cut). By AI agents, Wed Nov 11 2026. No macro, syntax, notation, axiom, sorry.
-/
import Derived.Test.YtbdoblgofddhdaaChecked
import GoSem.Claim
import GoSem.ClaimJoined
import GoSem.ClaimMapViews
import Derived.JoinedTies
import Derived.KernelRfl
namespace Go.Proofs.Ytbdoblgofddhdaa
/- THE CELL 'sum', in the pinned program and in every row, IS THE sha256 OF THE DUMP (.gsa) THAT YtbdoblgofddhdaaProg.lean LOADS. Nothing in Lean hashes anything: it is a label: what it is worth is what the hold of that sum in a sandbox is worth. -/
noncomputable def Try.pinned : Pinned := { name := "ytbdoblgofddhdaa", sum := "e89bd394114677ee5cc5471eba2d11964aaf821b67fd5f8b5d15bf62ddde62f4", checked := Try.checked }
namespace Rows
def none {H : Type} : Left H := { results := [], args := [] }

/-- 'glossatorkeep2.SolveReturnsValidProof': WHATEVER THE INPUT: true; the input reads as it did. -/
def solveReturnsValidProofSpec : ChangeSpec := { name := "solveReturnsValidProof", fn := fun _ => fun
  | [d1, d2, d3, d4] => { results := [.lit (.bool true)], args := [d1, d2, d3, d4] }
  | _ => none }
def solveReturnsValidProofRow : OpenClaim := { program := "ytbdoblgofddhdaa", sum := "e89bd394114677ee5cc5471eba2d11964aaf821b67fd5f8b5d15bf62ddde62f4", func := "glossator/glossatorkeep2.SolveReturnsValidProof", spec := "solveReturnsValidProof", unfollowed := true, recurses := true, loops := true, apart := false }
def SolveReturnsValidProofSaid : Prop := solveReturnsValidProofRow.holds Try.pinned (OpenSpec.ofChange solveReturnsValidProofSpec)

/-- ITS FALSE NEIGHBOUR: 'it returns false'. Refute it at one input. -/
def solveReturnsValidProofWrong : ChangeSpec := { name := "solveReturnsValidProof", fn := fun _ => fun
  | [d1, d2, d3, d4] => { results := [.lit (.bool false)], args := [d1, d2, d3, d4] }
  | _ => none }
def SolveReturnsValidProofWrongFalsely : Prop := solveReturnsValidProofRow.holds Try.pinned (OpenSpec.ofChange solveReturnsValidProofWrong)

/-- 'glossatorkeep2.CheckProofRejectsOtherType': WHATEVER THE INPUT: true; the input reads as it did. -/
def checkProofRejectsOtherTypeSpec : ChangeSpec := { name := "checkProofRejectsOtherType", fn := fun _ => fun
  | [d1, d2, d3, d4, d5] => { results := [.lit (.bool true)], args := [d1, d2, d3, d4, d5] }
  | _ => none }
def checkProofRejectsOtherTypeRow : OpenClaim := { program := "ytbdoblgofddhdaa", sum := "e89bd394114677ee5cc5471eba2d11964aaf821b67fd5f8b5d15bf62ddde62f4", func := "glossator/glossatorkeep2.CheckProofRejectsOtherType", spec := "checkProofRejectsOtherType", unfollowed := true, recurses := true, loops := true, apart := false }
def CheckProofRejectsOtherTypeSaid : Prop := checkProofRejectsOtherTypeRow.holds Try.pinned (OpenSpec.ofChange checkProofRejectsOtherTypeSpec)

/-- ITS FALSE NEIGHBOUR: 'it returns false'. Refute it at one input. -/
def checkProofRejectsOtherTypeWrong : ChangeSpec := { name := "checkProofRejectsOtherType", fn := fun _ => fun
  | [d1, d2, d3, d4, d5] => { results := [.lit (.bool false)], args := [d1, d2, d3, d4, d5] }
  | _ => none }
def CheckProofRejectsOtherTypeWrongFalsely : Prop := checkProofRejectsOtherTypeRow.holds Try.pinned (OpenSpec.ofChange checkProofRejectsOtherTypeWrong)

/-- 'glossatorlaw2.SolveMatchesReference': WHATEVER THE INPUT: true; the input reads as it did. -/
def solveMatchesReferenceSpec : ChangeSpec := { name := "solveMatchesReference", fn := fun _ => fun
  | [d1, d2, d3, d4] => { results := [.lit (.bool true)], args := [d1, d2, d3, d4] }
  | _ => none }
def solveMatchesReferenceRow : OpenClaim := { program := "ytbdoblgofddhdaa", sum := "e89bd394114677ee5cc5471eba2d11964aaf821b67fd5f8b5d15bf62ddde62f4", func := "glossator/glossatorlaw2.SolveMatchesReference", spec := "solveMatchesReference", unfollowed := true, recurses := true, loops := true, apart := false }
def SolveMatchesReferenceSaid : Prop := solveMatchesReferenceRow.holds Try.pinned (OpenSpec.ofChange solveMatchesReferenceSpec)

/-- ITS FALSE NEIGHBOUR: 'it returns false'. Refute it at one input. -/
def solveMatchesReferenceWrong : ChangeSpec := { name := "solveMatchesReference", fn := fun _ => fun
  | [d1, d2, d3, d4] => { results := [.lit (.bool false)], args := [d1, d2, d3, d4] }
  | _ => none }
def SolveMatchesReferenceWrongFalsely : Prop := solveMatchesReferenceRow.holds Try.pinned (OpenSpec.ofChange solveMatchesReferenceWrong)

/-- 'glossatorkeep2.SolveWithMoreAssumptions': WHATEVER THE INPUT: true; the input reads as it did. -/
def solveWithMoreAssumptionsSpec : ChangeSpec := { name := "solveWithMoreAssumptions", fn := fun _ => fun
  | [d1, d2, d3, d4, d5] => { results := [.lit (.bool true)], args := [d1, d2, d3, d4, d5] }
  | _ => none }
def solveWithMoreAssumptionsRow : OpenClaim := { program := "ytbdoblgofddhdaa", sum := "e89bd394114677ee5cc5471eba2d11964aaf821b67fd5f8b5d15bf62ddde62f4", func := "glossator/glossatorkeep2.SolveWithMoreAssumptions", spec := "solveWithMoreAssumptions", unfollowed := true, recurses := true, loops := true, apart := false }
def SolveWithMoreAssumptionsSaid : Prop := solveWithMoreAssumptionsRow.holds Try.pinned (OpenSpec.ofChange solveWithMoreAssumptionsSpec)

/-- ITS FALSE NEIGHBOUR: 'it returns false'. Refute it at one input. -/
def solveWithMoreAssumptionsWrong : ChangeSpec := { name := "solveWithMoreAssumptions", fn := fun _ => fun
  | [d1, d2, d3, d4, d5] => { results := [.lit (.bool false)], args := [d1, d2, d3, d4, d5] }
  | _ => none }
def SolveWithMoreAssumptionsWrongFalsely : Prop := solveWithMoreAssumptionsRow.holds Try.pinned (OpenSpec.ofChange solveWithMoreAssumptionsWrong)

/-- 'glossatorkeep2.NormalizeIsIdempotent': WHATEVER THE INPUT: true; the input reads as it did. -/
def normalizeIsIdempotentSpec : ChangeSpec := { name := "normalizeIsIdempotent", fn := fun _ => fun
  | [d1, d2, d3, d4] => { results := [.lit (.bool true)], args := [d1, d2, d3, d4] }
  | _ => none }
def normalizeIsIdempotentRow : OpenClaim := { program := "ytbdoblgofddhdaa", sum := "e89bd394114677ee5cc5471eba2d11964aaf821b67fd5f8b5d15bf62ddde62f4", func := "glossator/glossatorkeep2.NormalizeIsIdempotent", spec := "normalizeIsIdempotent", unfollowed := true, recurses := true, loops := true, apart := false }
def NormalizeIsIdempotentSaid : Prop := normalizeIsIdempotentRow.holds Try.pinned (OpenSpec.ofChange normalizeIsIdempotentSpec)

/-- ITS FALSE NEIGHBOUR: 'it returns false'. Refute it at one input. -/
def normalizeIsIdempotentWrong : ChangeSpec := { name := "normalizeIsIdempotent", fn := fun _ => fun
  | [d1, d2, d3, d4] => { results := [.lit (.bool false)], args := [d1, d2, d3, d4] }
  | _ => none }
def NormalizeIsIdempotentWrongFalsely : Prop := normalizeIsIdempotentRow.holds Try.pinned (OpenSpec.ofChange normalizeIsIdempotentWrong)

/-- 'glossatorkeep2.NormalizeIsCompositional': WHATEVER THE INPUT: true; the input reads as it did. -/
def normalizeIsCompositionalSpec : ChangeSpec := { name := "normalizeIsCompositional", fn := fun _ => fun
  | [d1, d2, d3, d4] => { results := [.lit (.bool true)], args := [d1, d2, d3, d4] }
  | _ => none }
def normalizeIsCompositionalRow : OpenClaim := { program := "ytbdoblgofddhdaa", sum := "e89bd394114677ee5cc5471eba2d11964aaf821b67fd5f8b5d15bf62ddde62f4", func := "glossator/glossatorkeep2.NormalizeIsCompositional", spec := "normalizeIsCompositional", unfollowed := true, recurses := true, loops := true, apart := false }
def NormalizeIsCompositionalSaid : Prop := normalizeIsCompositionalRow.holds Try.pinned (OpenSpec.ofChange normalizeIsCompositionalSpec)

/-- ITS FALSE NEIGHBOUR: 'it returns false'. Refute it at one input. -/
def normalizeIsCompositionalWrong : ChangeSpec := { name := "normalizeIsCompositional", fn := fun _ => fun
  | [d1, d2, d3, d4] => { results := [.lit (.bool false)], args := [d1, d2, d3, d4] }
  | _ => none }
def NormalizeIsCompositionalWrongFalsely : Prop := normalizeIsCompositionalRow.holds Try.pinned (OpenSpec.ofChange normalizeIsCompositionalWrong)

/-- 'glossatorlaw2.NormalizeMatchesReference': WHATEVER THE INPUT: true; the input reads as it did. -/
def normalizeMatchesReferenceSpec : ChangeSpec := { name := "normalizeMatchesReference", fn := fun _ => fun
  | [d1, d2, d3, d4] => { results := [.lit (.bool true)], args := [d1, d2, d3, d4] }
  | _ => none }
def normalizeMatchesReferenceRow : OpenClaim := { program := "ytbdoblgofddhdaa", sum := "e89bd394114677ee5cc5471eba2d11964aaf821b67fd5f8b5d15bf62ddde62f4", func := "glossator/glossatorlaw2.NormalizeMatchesReference", spec := "normalizeMatchesReference", unfollowed := true, recurses := true, loops := true, apart := false }
def NormalizeMatchesReferenceSaid : Prop := normalizeMatchesReferenceRow.holds Try.pinned (OpenSpec.ofChange normalizeMatchesReferenceSpec)

/-- ITS FALSE NEIGHBOUR: 'it returns false'. Refute it at one input. -/
def normalizeMatchesReferenceWrong : ChangeSpec := { name := "normalizeMatchesReference", fn := fun _ => fun
  | [d1, d2, d3, d4] => { results := [.lit (.bool false)], args := [d1, d2, d3, d4] }
  | _ => none }
def NormalizeMatchesReferenceWrongFalsely : Prop := normalizeMatchesReferenceRow.holds Try.pinned (OpenSpec.ofChange normalizeMatchesReferenceWrong)

/-- 'glossatorlaw2.ExhaustivenessMatchesReference': WHATEVER THE INPUT: true; the input reads as it did. -/
def exhaustivenessMatchesReferenceSpec : ChangeSpec := { name := "exhaustivenessMatchesReference", fn := fun _ => fun
  | [d1, d2, d3] => { results := [.lit (.bool true)], args := [d1, d2, d3] }
  | _ => none }
def exhaustivenessMatchesReferenceRow : OpenClaim := { program := "ytbdoblgofddhdaa", sum := "e89bd394114677ee5cc5471eba2d11964aaf821b67fd5f8b5d15bf62ddde62f4", func := "glossator/glossatorlaw2.ExhaustivenessMatchesReference", spec := "exhaustivenessMatchesReference", unfollowed := true, recurses := true, loops := true, apart := false }
def ExhaustivenessMatchesReferenceSaid : Prop := exhaustivenessMatchesReferenceRow.holds Try.pinned (OpenSpec.ofChange exhaustivenessMatchesReferenceSpec)

/-- ITS FALSE NEIGHBOUR: 'it returns false'. Refute it at one input. -/
def exhaustivenessMatchesReferenceWrong : ChangeSpec := { name := "exhaustivenessMatchesReference", fn := fun _ => fun
  | [d1, d2, d3] => { results := [.lit (.bool false)], args := [d1, d2, d3] }
  | _ => none }
def ExhaustivenessMatchesReferenceWrongFalsely : Prop := exhaustivenessMatchesReferenceRow.holds Try.pinned (OpenSpec.ofChange exhaustivenessMatchesReferenceWrong)

/-- 'glossatorkeep2.AddingRowsPreservesExhaustiveness': WHATEVER THE INPUT: true; the input reads as it did. -/
def addingRowsPreservesExhaustivenessSpec : ChangeSpec := { name := "addingRowsPreservesExhaustiveness", fn := fun _ => fun
  | [d1, d2, d3, d4] => { results := [.lit (.bool true)], args := [d1, d2, d3, d4] }
  | _ => none }
def addingRowsPreservesExhaustivenessRow : OpenClaim := { program := "ytbdoblgofddhdaa", sum := "e89bd394114677ee5cc5471eba2d11964aaf821b67fd5f8b5d15bf62ddde62f4", func := "glossator/glossatorkeep2.AddingRowsPreservesExhaustiveness", spec := "addingRowsPreservesExhaustiveness", unfollowed := true, recurses := true, loops := true, apart := false }
def AddingRowsPreservesExhaustivenessSaid : Prop := addingRowsPreservesExhaustivenessRow.holds Try.pinned (OpenSpec.ofChange addingRowsPreservesExhaustivenessSpec)

/-- ITS FALSE NEIGHBOUR: 'it returns false'. Refute it at one input. -/
def addingRowsPreservesExhaustivenessWrong : ChangeSpec := { name := "addingRowsPreservesExhaustiveness", fn := fun _ => fun
  | [d1, d2, d3, d4] => { results := [.lit (.bool false)], args := [d1, d2, d3, d4] }
  | _ => none }
def AddingRowsPreservesExhaustivenessWrongFalsely : Prop := addingRowsPreservesExhaustivenessRow.holds Try.pinned (OpenSpec.ofChange addingRowsPreservesExhaustivenessWrong)

/-- 'glossatorkeep2.RemovingRedundantRows': WHATEVER THE INPUT: true; the input reads as it did. -/
def removingRedundantRowsSpec : ChangeSpec := { name := "removingRedundantRows", fn := fun _ => fun
  | [d1, d2, d3] => { results := [.lit (.bool true)], args := [d1, d2, d3] }
  | _ => none }
def removingRedundantRowsRow : OpenClaim := { program := "ytbdoblgofddhdaa", sum := "e89bd394114677ee5cc5471eba2d11964aaf821b67fd5f8b5d15bf62ddde62f4", func := "glossator/glossatorkeep2.RemovingRedundantRows", spec := "removingRedundantRows", unfollowed := true, recurses := true, loops := true, apart := false }
def RemovingRedundantRowsSaid : Prop := removingRedundantRowsRow.holds Try.pinned (OpenSpec.ofChange removingRedundantRowsSpec)

/-- ITS FALSE NEIGHBOUR: 'it returns false'. Refute it at one input. -/
def removingRedundantRowsWrong : ChangeSpec := { name := "removingRedundantRows", fn := fun _ => fun
  | [d1, d2, d3] => { results := [.lit (.bool false)], args := [d1, d2, d3] }
  | _ => none }
def RemovingRedundantRowsWrongFalsely : Prop := removingRedundantRowsRow.holds Try.pinned (OpenSpec.ofChange removingRedundantRowsWrong)

/-- 'glossatorkeep2.ExhaustivenessIgnoresRowOrder': WHATEVER THE INPUT: true; the input reads as it did. -/
def exhaustivenessIgnoresRowOrderSpec : ChangeSpec := { name := "exhaustivenessIgnoresRowOrder", fn := fun _ => fun
  | [d1, d2, d3] => { results := [.lit (.bool true)], args := [d1, d2, d3] }
  | _ => none }
def exhaustivenessIgnoresRowOrderRow : OpenClaim := { program := "ytbdoblgofddhdaa", sum := "e89bd394114677ee5cc5471eba2d11964aaf821b67fd5f8b5d15bf62ddde62f4", func := "glossator/glossatorkeep2.ExhaustivenessIgnoresRowOrder", spec := "exhaustivenessIgnoresRowOrder", unfollowed := true, recurses := true, loops := true, apart := false }
def ExhaustivenessIgnoresRowOrderSaid : Prop := exhaustivenessIgnoresRowOrderRow.holds Try.pinned (OpenSpec.ofChange exhaustivenessIgnoresRowOrderSpec)

/-- ITS FALSE NEIGHBOUR: 'it returns false'. Refute it at one input. -/
def exhaustivenessIgnoresRowOrderWrong : ChangeSpec := { name := "exhaustivenessIgnoresRowOrder", fn := fun _ => fun
  | [d1, d2, d3] => { results := [.lit (.bool false)], args := [d1, d2, d3] }
  | _ => none }
def ExhaustivenessIgnoresRowOrderWrongFalsely : Prop := exhaustivenessIgnoresRowOrderRow.holds Try.pinned (OpenSpec.ofChange exhaustivenessIgnoresRowOrderWrong)

/-- 'glossatorkeep2.MissingRowIsUnmatched': WHATEVER THE INPUT: true; the input reads as it did. -/
def missingRowIsUnmatchedSpec : ChangeSpec := { name := "missingRowIsUnmatched", fn := fun _ => fun
  | [d1, d2, d3, d4] => { results := [.lit (.bool true)], args := [d1, d2, d3, d4] }
  | _ => none }
def missingRowIsUnmatchedRow : OpenClaim := { program := "ytbdoblgofddhdaa", sum := "e89bd394114677ee5cc5471eba2d11964aaf821b67fd5f8b5d15bf62ddde62f4", func := "glossator/glossatorkeep2.MissingRowIsUnmatched", spec := "missingRowIsUnmatched", unfollowed := true, recurses := true, loops := true, apart := false }
def MissingRowIsUnmatchedSaid : Prop := missingRowIsUnmatchedRow.holds Try.pinned (OpenSpec.ofChange missingRowIsUnmatchedSpec)

/-- ITS FALSE NEIGHBOUR: 'it returns false'. Refute it at one input. -/
def missingRowIsUnmatchedWrong : ChangeSpec := { name := "missingRowIsUnmatched", fn := fun _ => fun
  | [d1, d2, d3, d4] => { results := [.lit (.bool false)], args := [d1, d2, d3, d4] }
  | _ => none }
def MissingRowIsUnmatchedWrongFalsely : Prop := missingRowIsUnmatchedRow.holds Try.pinned (OpenSpec.ofChange missingRowIsUnmatchedWrong)

/-- 'glossatorlaw2.MatchesAgreesWithReference': WHATEVER THE INPUT: true; the input reads as it did. -/
def matchesAgreesWithReferenceSpec : ChangeSpec := { name := "matchesAgreesWithReference", fn := fun _ => fun
  | [d1, d2] => { results := [.lit (.bool true)], args := [d1, d2] }
  | _ => none }
def matchesAgreesWithReferenceRow : OpenClaim := { program := "ytbdoblgofddhdaa", sum := "e89bd394114677ee5cc5471eba2d11964aaf821b67fd5f8b5d15bf62ddde62f4", func := "glossator/glossatorlaw2.MatchesAgreesWithReference", spec := "matchesAgreesWithReference", unfollowed := true, recurses := true, loops := true, apart := false }
def MatchesAgreesWithReferenceSaid : Prop := matchesAgreesWithReferenceRow.holds Try.pinned (OpenSpec.ofChange matchesAgreesWithReferenceSpec)

/-- ITS FALSE NEIGHBOUR: 'it returns false'. Refute it at one input. -/
def matchesAgreesWithReferenceWrong : ChangeSpec := { name := "matchesAgreesWithReference", fn := fun _ => fun
  | [d1, d2] => { results := [.lit (.bool false)], args := [d1, d2] }
  | _ => none }
def MatchesAgreesWithReferenceWrongFalsely : Prop := matchesAgreesWithReferenceRow.holds Try.pinned (OpenSpec.ofChange matchesAgreesWithReferenceWrong)

/-- 'glossatorlaw2.UnifyMatchesReference': WHATEVER THE INPUT: true; the input reads as it did. -/
def unifyMatchesReferenceSpec : ChangeSpec := { name := "unifyMatchesReference", fn := fun _ => fun
  | [d] => { results := [.lit (.bool true)], args := [d] }
  | _ => none }
def unifyMatchesReferenceRow : OpenClaim := { program := "ytbdoblgofddhdaa", sum := "e89bd394114677ee5cc5471eba2d11964aaf821b67fd5f8b5d15bf62ddde62f4", func := "glossator/glossatorlaw2.UnifyMatchesReference", spec := "unifyMatchesReference", unfollowed := true, recurses := true, loops := true, apart := false }
def UnifyMatchesReferenceSaid : Prop := unifyMatchesReferenceRow.holds Try.pinned (OpenSpec.ofChange unifyMatchesReferenceSpec)

/-- ITS FALSE NEIGHBOUR: 'it returns false'. Refute it at one input. -/
def unifyMatchesReferenceWrong : ChangeSpec := { name := "unifyMatchesReference", fn := fun _ => fun
  | [d] => { results := [.lit (.bool false)], args := [d] }
  | _ => none }
def UnifyMatchesReferenceWrongFalsely : Prop := unifyMatchesReferenceRow.holds Try.pinned (OpenSpec.ofChange unifyMatchesReferenceWrong)

/-- 'glossatorkeep2.UnifyOrderIndependent': WHATEVER THE INPUT: true; the input reads as it did. -/
def unifyOrderIndependentSpec : ChangeSpec := { name := "unifyOrderIndependent", fn := fun _ => fun
  | [d] => { results := [.lit (.bool true)], args := [d] }
  | _ => none }
def unifyOrderIndependentRow : OpenClaim := { program := "ytbdoblgofddhdaa", sum := "e89bd394114677ee5cc5471eba2d11964aaf821b67fd5f8b5d15bf62ddde62f4", func := "glossator/glossatorkeep2.UnifyOrderIndependent", spec := "unifyOrderIndependent", unfollowed := true, recurses := true, loops := true, apart := false }
def UnifyOrderIndependentSaid : Prop := unifyOrderIndependentRow.holds Try.pinned (OpenSpec.ofChange unifyOrderIndependentSpec)

/-- ITS FALSE NEIGHBOUR: 'it returns false'. Refute it at one input. -/
def unifyOrderIndependentWrong : ChangeSpec := { name := "unifyOrderIndependent", fn := fun _ => fun
  | [d] => { results := [.lit (.bool false)], args := [d] }
  | _ => none }
def UnifyOrderIndependentWrongFalsely : Prop := unifyOrderIndependentRow.holds Try.pinned (OpenSpec.ofChange unifyOrderIndependentWrong)

/-- 'glossatorkeep2.UnifySolvesEquations': WHATEVER THE INPUT: true; the input reads as it did. -/
def unifySolvesEquationsSpec : ChangeSpec := { name := "unifySolvesEquations", fn := fun _ => fun
  | [d] => { results := [.lit (.bool true)], args := [d] }
  | _ => none }
def unifySolvesEquationsRow : OpenClaim := { program := "ytbdoblgofddhdaa", sum := "e89bd394114677ee5cc5471eba2d11964aaf821b67fd5f8b5d15bf62ddde62f4", func := "glossator/glossatorkeep2.UnifySolvesEquations", spec := "unifySolvesEquations", unfollowed := true, recurses := true, loops := true, apart := false }
def UnifySolvesEquationsSaid : Prop := unifySolvesEquationsRow.holds Try.pinned (OpenSpec.ofChange unifySolvesEquationsSpec)

/-- ITS FALSE NEIGHBOUR: 'it returns false'. Refute it at one input. -/
def unifySolvesEquationsWrong : ChangeSpec := { name := "unifySolvesEquations", fn := fun _ => fun
  | [d] => { results := [.lit (.bool false)], args := [d] }
  | _ => none }
def UnifySolvesEquationsWrongFalsely : Prop := unifySolvesEquationsRow.holds Try.pinned (OpenSpec.ofChange unifySolvesEquationsWrong)

/-- 'glossatorkeep2.UnifyMonotone': WHATEVER THE INPUT: true; the input reads as it did. -/
def unifyMonotoneSpec : ChangeSpec := { name := "unifyMonotone", fn := fun _ => fun
  | [d1, d2] => { results := [.lit (.bool true)], args := [d1, d2] }
  | _ => none }
def unifyMonotoneRow : OpenClaim := { program := "ytbdoblgofddhdaa", sum := "e89bd394114677ee5cc5471eba2d11964aaf821b67fd5f8b5d15bf62ddde62f4", func := "glossator/glossatorkeep2.UnifyMonotone", spec := "unifyMonotone", unfollowed := true, recurses := true, loops := true, apart := false }
def UnifyMonotoneSaid : Prop := unifyMonotoneRow.holds Try.pinned (OpenSpec.ofChange unifyMonotoneSpec)

/-- ITS FALSE NEIGHBOUR: 'it returns false'. Refute it at one input. -/
def unifyMonotoneWrong : ChangeSpec := { name := "unifyMonotone", fn := fun _ => fun
  | [d1, d2] => { results := [.lit (.bool false)], args := [d1, d2] }
  | _ => none }
def UnifyMonotoneWrongFalsely : Prop := unifyMonotoneRow.holds Try.pinned (OpenSpec.ofChange unifyMonotoneWrong)

/-- 'glossatorkeep2.UnifyMostGeneral': WHATEVER THE INPUT: true; the input reads as it did. -/
def unifyMostGeneralSpec : ChangeSpec := { name := "unifyMostGeneral", fn := fun _ => fun
  | [d1, d2] => { results := [.lit (.bool true)], args := [d1, d2] }
  | _ => none }
def unifyMostGeneralRow : OpenClaim := { program := "ytbdoblgofddhdaa", sum := "e89bd394114677ee5cc5471eba2d11964aaf821b67fd5f8b5d15bf62ddde62f4", func := "glossator/glossatorkeep2.UnifyMostGeneral", spec := "unifyMostGeneral", unfollowed := true, recurses := true, loops := true, apart := false }
def UnifyMostGeneralSaid : Prop := unifyMostGeneralRow.holds Try.pinned (OpenSpec.ofChange unifyMostGeneralSpec)

/-- ITS FALSE NEIGHBOUR: 'it returns false'. Refute it at one input. -/
def unifyMostGeneralWrong : ChangeSpec := { name := "unifyMostGeneral", fn := fun _ => fun
  | [d1, d2] => { results := [.lit (.bool false)], args := [d1, d2] }
  | _ => none }
def UnifyMostGeneralWrongFalsely : Prop := unifyMostGeneralRow.holds Try.pinned (OpenSpec.ofChange unifyMostGeneralWrong)

/- THE SECOND FORM. 'bulk': how many values and letters a reading holds, each counted each time it is reached (what is shared counts as often as it is met; a slice's spare places count too). A statement '..UptoSaid' is the law's where the arguments, and the package variables that the reading takes, are together of bulk at most 1048576: NARROWER than '..Said'. Prove '..Said' where nothing that the law and all that it calls make is longer than what came in: it says more and counts as full. Else prove '..UptoSaid'. A law counts once. -/
mutual
def uptoBulk {H : Type} : DataW H → Nat
  | .lit (.string bytes) => bytes.length + 1
  | .lit _ => 1
  | .nil => 1
  | .ptr d => uptoBulk d + 1
  | .slice elems spare => uptoBulkAll elems + uptoBulkAll spare + 1
  | .agg parts => uptoBulkAll parts + 1
  | .iface _ d => uptoBulk d + 1
  | .map entries => uptoBulkEntries entries + 1
  | .held _ => 1
def uptoBulkAll {H : Type} : List (DataW H) → Nat
  | [] => 0
  | d :: r => uptoBulk d + uptoBulkAll r
def uptoBulkEntries {H : Type} : List (Lit × DataW H) → Nat
  | [] => 0
  | x :: r => uptoBulkEntry x + uptoBulkEntries r
def uptoBulkEntry {H : Type} : Lit × DataW H → Nat
  | (.string bytes, d) => bytes.length + uptoBulk d + 1
  | (_, d) => uptoBulk d + 1
 end
def uptoSmall : (H : Type) → List (DataW H) → Bool := fun _ ds => decide (uptoBulkAll ds ≤ 1048576)
def OpenSpec.upto (s : _root_.Go.ChangeSpec) : _root_.Go.OpenSpec := { _root_.Go.OpenSpec.ofChange s with cond := some uptoSmall }

/-- 'glossatorkeep2.SolveReturnsValidProof', WHERE WHAT IT READS IS OF BULK AT MOST 1048576: true; the input reads as it did. -/
def solveReturnsValidProofUptoRow : OpenClaim := { program := "ytbdoblgofddhdaa", sum := "e89bd394114677ee5cc5471eba2d11964aaf821b67fd5f8b5d15bf62ddde62f4", func := "glossator/glossatorkeep2.SolveReturnsValidProof", spec := "solveReturnsValidProof", unfollowed := true, recurses := true, loops := true, apart := false, narrowed := true }
def SolveReturnsValidProofUptoSaid : Prop := solveReturnsValidProofUptoRow.holds Try.pinned (OpenSpec.upto solveReturnsValidProofSpec)

/-- 'glossatorkeep2.CheckProofRejectsOtherType', WHERE WHAT IT READS IS OF BULK AT MOST 1048576: true; the input reads as it did. -/
def checkProofRejectsOtherTypeUptoRow : OpenClaim := { program := "ytbdoblgofddhdaa", sum := "e89bd394114677ee5cc5471eba2d11964aaf821b67fd5f8b5d15bf62ddde62f4", func := "glossator/glossatorkeep2.CheckProofRejectsOtherType", spec := "checkProofRejectsOtherType", unfollowed := true, recurses := true, loops := true, apart := false, narrowed := true }
def CheckProofRejectsOtherTypeUptoSaid : Prop := checkProofRejectsOtherTypeUptoRow.holds Try.pinned (OpenSpec.upto checkProofRejectsOtherTypeSpec)

/-- 'glossatorlaw2.SolveMatchesReference', WHERE WHAT IT READS IS OF BULK AT MOST 1048576: true; the input reads as it did. -/
def solveMatchesReferenceUptoRow : OpenClaim := { program := "ytbdoblgofddhdaa", sum := "e89bd394114677ee5cc5471eba2d11964aaf821b67fd5f8b5d15bf62ddde62f4", func := "glossator/glossatorlaw2.SolveMatchesReference", spec := "solveMatchesReference", unfollowed := true, recurses := true, loops := true, apart := false, narrowed := true }
def SolveMatchesReferenceUptoSaid : Prop := solveMatchesReferenceUptoRow.holds Try.pinned (OpenSpec.upto solveMatchesReferenceSpec)

/-- 'glossatorkeep2.SolveWithMoreAssumptions', WHERE WHAT IT READS IS OF BULK AT MOST 1048576: true; the input reads as it did. -/
def solveWithMoreAssumptionsUptoRow : OpenClaim := { program := "ytbdoblgofddhdaa", sum := "e89bd394114677ee5cc5471eba2d11964aaf821b67fd5f8b5d15bf62ddde62f4", func := "glossator/glossatorkeep2.SolveWithMoreAssumptions", spec := "solveWithMoreAssumptions", unfollowed := true, recurses := true, loops := true, apart := false, narrowed := true }
def SolveWithMoreAssumptionsUptoSaid : Prop := solveWithMoreAssumptionsUptoRow.holds Try.pinned (OpenSpec.upto solveWithMoreAssumptionsSpec)

/-- 'glossatorkeep2.NormalizeIsIdempotent', WHERE WHAT IT READS IS OF BULK AT MOST 1048576: true; the input reads as it did. -/
def normalizeIsIdempotentUptoRow : OpenClaim := { program := "ytbdoblgofddhdaa", sum := "e89bd394114677ee5cc5471eba2d11964aaf821b67fd5f8b5d15bf62ddde62f4", func := "glossator/glossatorkeep2.NormalizeIsIdempotent", spec := "normalizeIsIdempotent", unfollowed := true, recurses := true, loops := true, apart := false, narrowed := true }
def NormalizeIsIdempotentUptoSaid : Prop := normalizeIsIdempotentUptoRow.holds Try.pinned (OpenSpec.upto normalizeIsIdempotentSpec)

/-- 'glossatorkeep2.NormalizeIsCompositional', WHERE WHAT IT READS IS OF BULK AT MOST 1048576: true; the input reads as it did. -/
def normalizeIsCompositionalUptoRow : OpenClaim := { program := "ytbdoblgofddhdaa", sum := "e89bd394114677ee5cc5471eba2d11964aaf821b67fd5f8b5d15bf62ddde62f4", func := "glossator/glossatorkeep2.NormalizeIsCompositional", spec := "normalizeIsCompositional", unfollowed := true, recurses := true, loops := true, apart := false, narrowed := true }
def NormalizeIsCompositionalUptoSaid : Prop := normalizeIsCompositionalUptoRow.holds Try.pinned (OpenSpec.upto normalizeIsCompositionalSpec)

/-- 'glossatorlaw2.NormalizeMatchesReference', WHERE WHAT IT READS IS OF BULK AT MOST 1048576: true; the input reads as it did. -/
def normalizeMatchesReferenceUptoRow : OpenClaim := { program := "ytbdoblgofddhdaa", sum := "e89bd394114677ee5cc5471eba2d11964aaf821b67fd5f8b5d15bf62ddde62f4", func := "glossator/glossatorlaw2.NormalizeMatchesReference", spec := "normalizeMatchesReference", unfollowed := true, recurses := true, loops := true, apart := false, narrowed := true }
def NormalizeMatchesReferenceUptoSaid : Prop := normalizeMatchesReferenceUptoRow.holds Try.pinned (OpenSpec.upto normalizeMatchesReferenceSpec)

/-- 'glossatorlaw2.ExhaustivenessMatchesReference', WHERE WHAT IT READS IS OF BULK AT MOST 1048576: true; the input reads as it did. -/
def exhaustivenessMatchesReferenceUptoRow : OpenClaim := { program := "ytbdoblgofddhdaa", sum := "e89bd394114677ee5cc5471eba2d11964aaf821b67fd5f8b5d15bf62ddde62f4", func := "glossator/glossatorlaw2.ExhaustivenessMatchesReference", spec := "exhaustivenessMatchesReference", unfollowed := true, recurses := true, loops := true, apart := false, narrowed := true }
def ExhaustivenessMatchesReferenceUptoSaid : Prop := exhaustivenessMatchesReferenceUptoRow.holds Try.pinned (OpenSpec.upto exhaustivenessMatchesReferenceSpec)

/-- 'glossatorkeep2.AddingRowsPreservesExhaustiveness', WHERE WHAT IT READS IS OF BULK AT MOST 1048576: true; the input reads as it did. -/
def addingRowsPreservesExhaustivenessUptoRow : OpenClaim := { program := "ytbdoblgofddhdaa", sum := "e89bd394114677ee5cc5471eba2d11964aaf821b67fd5f8b5d15bf62ddde62f4", func := "glossator/glossatorkeep2.AddingRowsPreservesExhaustiveness", spec := "addingRowsPreservesExhaustiveness", unfollowed := true, recurses := true, loops := true, apart := false, narrowed := true }
def AddingRowsPreservesExhaustivenessUptoSaid : Prop := addingRowsPreservesExhaustivenessUptoRow.holds Try.pinned (OpenSpec.upto addingRowsPreservesExhaustivenessSpec)

/-- 'glossatorkeep2.RemovingRedundantRows', WHERE WHAT IT READS IS OF BULK AT MOST 1048576: true; the input reads as it did. -/
def removingRedundantRowsUptoRow : OpenClaim := { program := "ytbdoblgofddhdaa", sum := "e89bd394114677ee5cc5471eba2d11964aaf821b67fd5f8b5d15bf62ddde62f4", func := "glossator/glossatorkeep2.RemovingRedundantRows", spec := "removingRedundantRows", unfollowed := true, recurses := true, loops := true, apart := false, narrowed := true }
def RemovingRedundantRowsUptoSaid : Prop := removingRedundantRowsUptoRow.holds Try.pinned (OpenSpec.upto removingRedundantRowsSpec)

/-- 'glossatorkeep2.ExhaustivenessIgnoresRowOrder', WHERE WHAT IT READS IS OF BULK AT MOST 1048576: true; the input reads as it did. -/
def exhaustivenessIgnoresRowOrderUptoRow : OpenClaim := { program := "ytbdoblgofddhdaa", sum := "e89bd394114677ee5cc5471eba2d11964aaf821b67fd5f8b5d15bf62ddde62f4", func := "glossator/glossatorkeep2.ExhaustivenessIgnoresRowOrder", spec := "exhaustivenessIgnoresRowOrder", unfollowed := true, recurses := true, loops := true, apart := false, narrowed := true }
def ExhaustivenessIgnoresRowOrderUptoSaid : Prop := exhaustivenessIgnoresRowOrderUptoRow.holds Try.pinned (OpenSpec.upto exhaustivenessIgnoresRowOrderSpec)

/-- 'glossatorkeep2.MissingRowIsUnmatched', WHERE WHAT IT READS IS OF BULK AT MOST 1048576: true; the input reads as it did. -/
def missingRowIsUnmatchedUptoRow : OpenClaim := { program := "ytbdoblgofddhdaa", sum := "e89bd394114677ee5cc5471eba2d11964aaf821b67fd5f8b5d15bf62ddde62f4", func := "glossator/glossatorkeep2.MissingRowIsUnmatched", spec := "missingRowIsUnmatched", unfollowed := true, recurses := true, loops := true, apart := false, narrowed := true }
def MissingRowIsUnmatchedUptoSaid : Prop := missingRowIsUnmatchedUptoRow.holds Try.pinned (OpenSpec.upto missingRowIsUnmatchedSpec)

/-- 'glossatorlaw2.MatchesAgreesWithReference', WHERE WHAT IT READS IS OF BULK AT MOST 1048576: true; the input reads as it did. -/
def matchesAgreesWithReferenceUptoRow : OpenClaim := { program := "ytbdoblgofddhdaa", sum := "e89bd394114677ee5cc5471eba2d11964aaf821b67fd5f8b5d15bf62ddde62f4", func := "glossator/glossatorlaw2.MatchesAgreesWithReference", spec := "matchesAgreesWithReference", unfollowed := true, recurses := true, loops := true, apart := false, narrowed := true }
def MatchesAgreesWithReferenceUptoSaid : Prop := matchesAgreesWithReferenceUptoRow.holds Try.pinned (OpenSpec.upto matchesAgreesWithReferenceSpec)

/-- 'glossatorlaw2.UnifyMatchesReference', WHERE WHAT IT READS IS OF BULK AT MOST 1048576: true; the input reads as it did. -/
def unifyMatchesReferenceUptoRow : OpenClaim := { program := "ytbdoblgofddhdaa", sum := "e89bd394114677ee5cc5471eba2d11964aaf821b67fd5f8b5d15bf62ddde62f4", func := "glossator/glossatorlaw2.UnifyMatchesReference", spec := "unifyMatchesReference", unfollowed := true, recurses := true, loops := true, apart := false, narrowed := true }
def UnifyMatchesReferenceUptoSaid : Prop := unifyMatchesReferenceUptoRow.holds Try.pinned (OpenSpec.upto unifyMatchesReferenceSpec)

/-- 'glossatorkeep2.UnifyOrderIndependent', WHERE WHAT IT READS IS OF BULK AT MOST 1048576: true; the input reads as it did. -/
def unifyOrderIndependentUptoRow : OpenClaim := { program := "ytbdoblgofddhdaa", sum := "e89bd394114677ee5cc5471eba2d11964aaf821b67fd5f8b5d15bf62ddde62f4", func := "glossator/glossatorkeep2.UnifyOrderIndependent", spec := "unifyOrderIndependent", unfollowed := true, recurses := true, loops := true, apart := false, narrowed := true }
def UnifyOrderIndependentUptoSaid : Prop := unifyOrderIndependentUptoRow.holds Try.pinned (OpenSpec.upto unifyOrderIndependentSpec)

/-- 'glossatorkeep2.UnifySolvesEquations', WHERE WHAT IT READS IS OF BULK AT MOST 1048576: true; the input reads as it did. -/
def unifySolvesEquationsUptoRow : OpenClaim := { program := "ytbdoblgofddhdaa", sum := "e89bd394114677ee5cc5471eba2d11964aaf821b67fd5f8b5d15bf62ddde62f4", func := "glossator/glossatorkeep2.UnifySolvesEquations", spec := "unifySolvesEquations", unfollowed := true, recurses := true, loops := true, apart := false, narrowed := true }
def UnifySolvesEquationsUptoSaid : Prop := unifySolvesEquationsUptoRow.holds Try.pinned (OpenSpec.upto unifySolvesEquationsSpec)

/-- 'glossatorkeep2.UnifyMonotone', WHERE WHAT IT READS IS OF BULK AT MOST 1048576: true; the input reads as it did. -/
def unifyMonotoneUptoRow : OpenClaim := { program := "ytbdoblgofddhdaa", sum := "e89bd394114677ee5cc5471eba2d11964aaf821b67fd5f8b5d15bf62ddde62f4", func := "glossator/glossatorkeep2.UnifyMonotone", spec := "unifyMonotone", unfollowed := true, recurses := true, loops := true, apart := false, narrowed := true }
def UnifyMonotoneUptoSaid : Prop := unifyMonotoneUptoRow.holds Try.pinned (OpenSpec.upto unifyMonotoneSpec)

/-- 'glossatorkeep2.UnifyMostGeneral', WHERE WHAT IT READS IS OF BULK AT MOST 1048576: true; the input reads as it did. -/
def unifyMostGeneralUptoRow : OpenClaim := { program := "ytbdoblgofddhdaa", sum := "e89bd394114677ee5cc5471eba2d11964aaf821b67fd5f8b5d15bf62ddde62f4", func := "glossator/glossatorkeep2.UnifyMostGeneral", spec := "unifyMostGeneral", unfollowed := true, recurses := true, loops := true, apart := false, narrowed := true }
def UnifyMostGeneralUptoSaid : Prop := unifyMostGeneralUptoRow.holds Try.pinned (OpenSpec.upto unifyMostGeneralSpec)

end Rows
end Go.Proofs.Ytbdoblgofddhdaa
