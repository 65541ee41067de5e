/-
  NARROWER THAN 'FOR EVERY INPUT', by the rows' own cells (each row's printed sentence says how): UnifyMatchesReference: loops · UnifyOrderIndependent: loops · UnifySolvesEquations: loops · UnifyMonotone: loops · UnifyMostGeneral: loops.
  DERIVED. THE GIVEN ROWS OF THIS SEAT. 5 by the template 'for every input the law returns true; each argument reads behind the call as it read before'; 0 by the template 'total and deterministic' (their statements: YtiediojibljpiaaTotals.lean).
  GIVEN WITH THE SEED: the statements are not yours to turn. If you find one false, say at which input.
  Laid BY PROGRAM, IN A SANDBOX (cutbox-rows.mjs): the forced cells as the released guide's own fill.sh prints them over the translation 1b9cf89d4de5ecd5… (all of the seat's roots in one cut). By AI agents, Wed Nov 11 2026. No macro, syntax, notation, axiom, sorry.
-/
import Derived.Test.YtiediojibljpiaaChecked
import GoSem.Claim
import GoSem.ClaimJoined
import GoSem.ClaimMapViews
import Derived.JoinedTies
import Derived.KernelRfl
namespace Go.Proofs.Ytiediojibljpiaa
/- THE CELL 'sum', in the pinned program and in every row, IS THE sha256 OF THE DUMP (.gsa) THAT YtiediojibljpiaaProg.lean LOADS. Nothing in Lean hashes anything: it is a label: what it is worth is what the hold of that sum in a sandbox is worth. -/
noncomputable def Try.pinned : Pinned := { name := "ytiediojibljpiaa", sum := "1b9cf89d4de5ecd526261ace0092ea5bf6149380eac85ab448d97da0d57133a0", checked := Try.checked }
namespace Rows
def none {H : Type} : Left H := { results := [], args := [] }

/-- 'glossatorlaw2.UnifyMatchesReference': WHATEVER THE INPUT: true; the input reads as it did. -/
def unifyMatchesReferenceSpec : ChangeSpec := { name := "unifyMatchesReference", fn := fun _ => fun
  | [d] => { results := [.lit (.bool true)], args := [d] }
  | _ => none }
def unifyMatchesReferenceRow : OpenClaim := { program := "ytiediojibljpiaa", sum := "1b9cf89d4de5ecd526261ace0092ea5bf6149380eac85ab448d97da0d57133a0", func := "glossator/glossatorlaw2.UnifyMatchesReference", spec := "unifyMatchesReference", unfollowed := true, recurses := true, loops := true, apart := false }
def UnifyMatchesReferenceSaid : Prop := unifyMatchesReferenceRow.holds Try.pinned (OpenSpec.ofChange unifyMatchesReferenceSpec)

/-- ITS FALSE NEIGHBOUR: 'it returns false'. Refute it at one input. -/
def unifyMatchesReferenceWrong : ChangeSpec := { name := "unifyMatchesReference", fn := fun _ => fun
  | [d] => { results := [.lit (.bool false)], args := [d] }
  | _ => none }
def UnifyMatchesReferenceWrongFalsely : Prop := unifyMatchesReferenceRow.holds Try.pinned (OpenSpec.ofChange unifyMatchesReferenceWrong)

/-- 'glossatorkeep2.UnifyOrderIndependent': WHATEVER THE INPUT: true; the input reads as it did. -/
def unifyOrderIndependentSpec : ChangeSpec := { name := "unifyOrderIndependent", fn := fun _ => fun
  | [d] => { results := [.lit (.bool true)], args := [d] }
  | _ => none }
def unifyOrderIndependentRow : OpenClaim := { program := "ytiediojibljpiaa", sum := "1b9cf89d4de5ecd526261ace0092ea5bf6149380eac85ab448d97da0d57133a0", func := "glossator/glossatorkeep2.UnifyOrderIndependent", spec := "unifyOrderIndependent", unfollowed := true, recurses := true, loops := true, apart := false }
def UnifyOrderIndependentSaid : Prop := unifyOrderIndependentRow.holds Try.pinned (OpenSpec.ofChange unifyOrderIndependentSpec)

/-- ITS FALSE NEIGHBOUR: 'it returns false'. Refute it at one input. -/
def unifyOrderIndependentWrong : ChangeSpec := { name := "unifyOrderIndependent", fn := fun _ => fun
  | [d] => { results := [.lit (.bool false)], args := [d] }
  | _ => none }
def UnifyOrderIndependentWrongFalsely : Prop := unifyOrderIndependentRow.holds Try.pinned (OpenSpec.ofChange unifyOrderIndependentWrong)

/-- 'glossatorkeep2.UnifySolvesEquations': WHATEVER THE INPUT: true; the input reads as it did. -/
def unifySolvesEquationsSpec : ChangeSpec := { name := "unifySolvesEquations", fn := fun _ => fun
  | [d] => { results := [.lit (.bool true)], args := [d] }
  | _ => none }
def unifySolvesEquationsRow : OpenClaim := { program := "ytiediojibljpiaa", sum := "1b9cf89d4de5ecd526261ace0092ea5bf6149380eac85ab448d97da0d57133a0", func := "glossator/glossatorkeep2.UnifySolvesEquations", spec := "unifySolvesEquations", unfollowed := true, recurses := true, loops := true, apart := false }
def UnifySolvesEquationsSaid : Prop := unifySolvesEquationsRow.holds Try.pinned (OpenSpec.ofChange unifySolvesEquationsSpec)

/-- ITS FALSE NEIGHBOUR: 'it returns false'. Refute it at one input. -/
def unifySolvesEquationsWrong : ChangeSpec := { name := "unifySolvesEquations", fn := fun _ => fun
  | [d] => { results := [.lit (.bool false)], args := [d] }
  | _ => none }
def UnifySolvesEquationsWrongFalsely : Prop := unifySolvesEquationsRow.holds Try.pinned (OpenSpec.ofChange unifySolvesEquationsWrong)

/-- 'glossatorkeep2.UnifyMonotone': WHATEVER THE INPUT: true; the input reads as it did. -/
def unifyMonotoneSpec : ChangeSpec := { name := "unifyMonotone", fn := fun _ => fun
  | [d1, d2] => { results := [.lit (.bool true)], args := [d1, d2] }
  | _ => none }
def unifyMonotoneRow : OpenClaim := { program := "ytiediojibljpiaa", sum := "1b9cf89d4de5ecd526261ace0092ea5bf6149380eac85ab448d97da0d57133a0", func := "glossator/glossatorkeep2.UnifyMonotone", spec := "unifyMonotone", unfollowed := true, recurses := true, loops := true, apart := false }
def UnifyMonotoneSaid : Prop := unifyMonotoneRow.holds Try.pinned (OpenSpec.ofChange unifyMonotoneSpec)

/-- ITS FALSE NEIGHBOUR: 'it returns false'. Refute it at one input. -/
def unifyMonotoneWrong : ChangeSpec := { name := "unifyMonotone", fn := fun _ => fun
  | [d1, d2] => { results := [.lit (.bool false)], args := [d1, d2] }
  | _ => none }
def UnifyMonotoneWrongFalsely : Prop := unifyMonotoneRow.holds Try.pinned (OpenSpec.ofChange unifyMonotoneWrong)

/-- 'glossatorkeep2.UnifyMostGeneral': WHATEVER THE INPUT: true; the input reads as it did. -/
def unifyMostGeneralSpec : ChangeSpec := { name := "unifyMostGeneral", fn := fun _ => fun
  | [d1, d2] => { results := [.lit (.bool true)], args := [d1, d2] }
  | _ => none }
def unifyMostGeneralRow : OpenClaim := { program := "ytiediojibljpiaa", sum := "1b9cf89d4de5ecd526261ace0092ea5bf6149380eac85ab448d97da0d57133a0", func := "glossator/glossatorkeep2.UnifyMostGeneral", spec := "unifyMostGeneral", unfollowed := true, recurses := true, loops := true, apart := false }
def UnifyMostGeneralSaid : Prop := unifyMostGeneralRow.holds Try.pinned (OpenSpec.ofChange unifyMostGeneralSpec)

/-- ITS FALSE NEIGHBOUR: 'it returns false'. Refute it at one input. -/
def unifyMostGeneralWrong : ChangeSpec := { name := "unifyMostGeneral", fn := fun _ => fun
  | [d1, d2] => { results := [.lit (.bool false)], args := [d1, d2] }
  | _ => none }
def UnifyMostGeneralWrongFalsely : Prop := unifyMostGeneralRow.holds Try.pinned (OpenSpec.ofChange unifyMostGeneralWrong)

/- THE SECOND FORM. 'bulk': how many values and letters a reading holds, each counted each time it is reached (what is shared counts as often as it is met; a slice's spare places count too). A statement '..UptoSaid' is the law's where the arguments, and the package variables that the reading takes, are together of bulk at most 1048576: NARROWER than '..Said'. Prove '..Said' where nothing that the law and all that it calls make is longer than what came in: it says more and counts as full. Else prove '..UptoSaid'. A law counts once. -/
mutual
def uptoBulk {H : Type} : DataW H → Nat
  | .lit (.string bytes) => bytes.length + 1
  | .lit _ => 1
  | .nil => 1
  | .ptr d => uptoBulk d + 1
  | .slice elems spare => uptoBulkAll elems + uptoBulkAll spare + 1
  | .agg parts => uptoBulkAll parts + 1
  | .iface _ d => uptoBulk d + 1
  | .map entries => uptoBulkEntries entries + 1
  | .held _ => 1
def uptoBulkAll {H : Type} : List (DataW H) → Nat
  | [] => 0
  | d :: r => uptoBulk d + uptoBulkAll r
def uptoBulkEntries {H : Type} : List (Lit × DataW H) → Nat
  | [] => 0
  | x :: r => uptoBulkEntry x + uptoBulkEntries r
def uptoBulkEntry {H : Type} : Lit × DataW H → Nat
  | (.string bytes, d) => bytes.length + uptoBulk d + 1
  | (_, d) => uptoBulk d + 1
 end
def uptoSmall : (H : Type) → List (DataW H) → Bool := fun _ ds => decide (uptoBulkAll ds ≤ 1048576)
def OpenSpec.upto (s : _root_.Go.ChangeSpec) : _root_.Go.OpenSpec := { _root_.Go.OpenSpec.ofChange s with cond := some uptoSmall }

/-- 'glossatorlaw2.UnifyMatchesReference', WHERE WHAT IT READS IS OF BULK AT MOST 1048576: true; the input reads as it did. -/
def unifyMatchesReferenceUptoRow : OpenClaim := { program := "ytiediojibljpiaa", sum := "1b9cf89d4de5ecd526261ace0092ea5bf6149380eac85ab448d97da0d57133a0", func := "glossator/glossatorlaw2.UnifyMatchesReference", spec := "unifyMatchesReference", unfollowed := true, recurses := true, loops := true, apart := false, narrowed := true }
def UnifyMatchesReferenceUptoSaid : Prop := unifyMatchesReferenceUptoRow.holds Try.pinned (OpenSpec.upto unifyMatchesReferenceSpec)

/-- 'glossatorkeep2.UnifyOrderIndependent', WHERE WHAT IT READS IS OF BULK AT MOST 1048576: true; the input reads as it did. -/
def unifyOrderIndependentUptoRow : OpenClaim := { program := "ytiediojibljpiaa", sum := "1b9cf89d4de5ecd526261ace0092ea5bf6149380eac85ab448d97da0d57133a0", func := "glossator/glossatorkeep2.UnifyOrderIndependent", spec := "unifyOrderIndependent", unfollowed := true, recurses := true, loops := true, apart := false, narrowed := true }
def UnifyOrderIndependentUptoSaid : Prop := unifyOrderIndependentUptoRow.holds Try.pinned (OpenSpec.upto unifyOrderIndependentSpec)

/-- 'glossatorkeep2.UnifySolvesEquations', WHERE WHAT IT READS IS OF BULK AT MOST 1048576: true; the input reads as it did. -/
def unifySolvesEquationsUptoRow : OpenClaim := { program := "ytiediojibljpiaa", sum := "1b9cf89d4de5ecd526261ace0092ea5bf6149380eac85ab448d97da0d57133a0", func := "glossator/glossatorkeep2.UnifySolvesEquations", spec := "unifySolvesEquations", unfollowed := true, recurses := true, loops := true, apart := false, narrowed := true }
def UnifySolvesEquationsUptoSaid : Prop := unifySolvesEquationsUptoRow.holds Try.pinned (OpenSpec.upto unifySolvesEquationsSpec)

/-- 'glossatorkeep2.UnifyMonotone', WHERE WHAT IT READS IS OF BULK AT MOST 1048576: true; the input reads as it did. -/
def unifyMonotoneUptoRow : OpenClaim := { program := "ytiediojibljpiaa", sum := "1b9cf89d4de5ecd526261ace0092ea5bf6149380eac85ab448d97da0d57133a0", func := "glossator/glossatorkeep2.UnifyMonotone", spec := "unifyMonotone", unfollowed := true, recurses := true, loops := true, apart := false, narrowed := true }
def UnifyMonotoneUptoSaid : Prop := unifyMonotoneUptoRow.holds Try.pinned (OpenSpec.upto unifyMonotoneSpec)

/-- 'glossatorkeep2.UnifyMostGeneral', WHERE WHAT IT READS IS OF BULK AT MOST 1048576: true; the input reads as it did. -/
def unifyMostGeneralUptoRow : OpenClaim := { program := "ytiediojibljpiaa", sum := "1b9cf89d4de5ecd526261ace0092ea5bf6149380eac85ab448d97da0d57133a0", func := "glossator/glossatorkeep2.UnifyMostGeneral", spec := "unifyMostGeneral", unfollowed := true, recurses := true, loops := true, apart := false, narrowed := true }
def UnifyMostGeneralUptoSaid : Prop := unifyMostGeneralUptoRow.holds Try.pinned (OpenSpec.upto unifyMostGeneralSpec)

end Rows
end Go.Proofs.Ytiediojibljpiaa
