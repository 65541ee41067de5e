/-
  NARROWER THAN 'FOR EVERY INPUT', by the rows' own cells (each row's printed sentence says how): SchemeMatchRoundTrip: loops · SchemeIgnoresAbsentParameters: loops · FoldIsIdempotent: loops · FoldMatchesReference: loops · SubstituteEliminatesVariable: loops · SubstituteCommutes: loops · TypeOperations: loops · FormatMatchesReference: loops · GreentreeReference: loops.
  DERIVED. THE GIVEN ROWS OF THIS SEAT. 10 by the template 'for every input the law returns true; each argument reads behind the call as it read before'; 0 by the template 'total and deterministic' (their statements: YtgphapkpoamcgaaTotals.lean).
  GIVEN WITH THE SEED: the statements are not yours to turn. If you find one false, say at which input.
  Laid BY PROGRAM, IN A SANDBOX (cutbox-rows.mjs): the forced cells as the released guide's own fill.sh prints them over the translation 93d073da83542062… (all of the seat's roots in one cut). By AI agents, Wed Nov 11 2026. No macro, syntax, notation, axiom, sorry.
-/
import Derived.Test.YtgphapkpoamcgaaChecked
import GoSem.Claim
import GoSem.ClaimJoined
import GoSem.ClaimMapViews
import Derived.JoinedTies
import Derived.KernelRfl
namespace Go.Proofs.Ytgphapkpoamcgaa
/- THE CELL 'sum', in the pinned program and in every row, IS THE sha256 OF THE DUMP (.gsa) THAT YtgphapkpoamcgaaProg.lean LOADS. Nothing in Lean hashes anything: it is a label: what it is worth is what the hold of that sum in a sandbox is worth. -/
noncomputable def Try.pinned : Pinned := { name := "ytgphapkpoamcgaa", sum := "93d073da83542062fcc8e6ee28efd39bca9b8ea8fe2f0946ed904cb88e8f8fb3", checked := Try.checked }
namespace Rows
def none {H : Type} : Left H := { results := [], args := [] }

/-- 'glossatorkeep2.SchemeMatchRoundTrip': WHATEVER THE INPUT: true; the input reads as it did. -/
def schemeMatchRoundTripSpec : ChangeSpec := { name := "schemeMatchRoundTrip", fn := fun _ => fun
  | [d1, d2, d3, d4] => { results := [.lit (.bool true)], args := [d1, d2, d3, d4] }
  | _ => none }
def schemeMatchRoundTripRow : OpenClaim := { program := "ytgphapkpoamcgaa", sum := "93d073da83542062fcc8e6ee28efd39bca9b8ea8fe2f0946ed904cb88e8f8fb3", func := "glossator/glossatorkeep2.SchemeMatchRoundTrip", spec := "schemeMatchRoundTrip", unfollowed := true, recurses := true, loops := true, apart := false }
def SchemeMatchRoundTripSaid : Prop := schemeMatchRoundTripRow.holds Try.pinned (OpenSpec.ofChange schemeMatchRoundTripSpec)

/-- ITS FALSE NEIGHBOUR: 'it returns false'. Refute it at one input. -/
def schemeMatchRoundTripWrong : ChangeSpec := { name := "schemeMatchRoundTrip", fn := fun _ => fun
  | [d1, d2, d3, d4] => { results := [.lit (.bool false)], args := [d1, d2, d3, d4] }
  | _ => none }
def SchemeMatchRoundTripWrongFalsely : Prop := schemeMatchRoundTripRow.holds Try.pinned (OpenSpec.ofChange schemeMatchRoundTripWrong)

/-- 'glossatorkeep2.SchemeIgnoresAbsentParameters': WHATEVER THE INPUT: true; the input reads as it did. -/
def schemeIgnoresAbsentParametersSpec : ChangeSpec := { name := "schemeIgnoresAbsentParameters", fn := fun _ => fun
  | [d1, d2, d3, d4] => { results := [.lit (.bool true)], args := [d1, d2, d3, d4] }
  | _ => none }
def schemeIgnoresAbsentParametersRow : OpenClaim := { program := "ytgphapkpoamcgaa", sum := "93d073da83542062fcc8e6ee28efd39bca9b8ea8fe2f0946ed904cb88e8f8fb3", func := "glossator/glossatorkeep2.SchemeIgnoresAbsentParameters", spec := "schemeIgnoresAbsentParameters", unfollowed := true, recurses := true, loops := true, apart := false }
def SchemeIgnoresAbsentParametersSaid : Prop := schemeIgnoresAbsentParametersRow.holds Try.pinned (OpenSpec.ofChange schemeIgnoresAbsentParametersSpec)

/-- ITS FALSE NEIGHBOUR: 'it returns false'. Refute it at one input. -/
def schemeIgnoresAbsentParametersWrong : ChangeSpec := { name := "schemeIgnoresAbsentParameters", fn := fun _ => fun
  | [d1, d2, d3, d4] => { results := [.lit (.bool false)], args := [d1, d2, d3, d4] }
  | _ => none }
def SchemeIgnoresAbsentParametersWrongFalsely : Prop := schemeIgnoresAbsentParametersRow.holds Try.pinned (OpenSpec.ofChange schemeIgnoresAbsentParametersWrong)

/-- 'glossatorkeep2.FoldIsIdempotent': WHATEVER THE INPUT: true; the input reads as it did. -/
def foldIsIdempotentSpec : ChangeSpec := { name := "foldIsIdempotent", fn := fun _ => fun
  | [d] => { results := [.lit (.bool true)], args := [d] }
  | _ => none }
def foldIsIdempotentRow : OpenClaim := { program := "ytgphapkpoamcgaa", sum := "93d073da83542062fcc8e6ee28efd39bca9b8ea8fe2f0946ed904cb88e8f8fb3", func := "glossator/glossatorkeep2.FoldIsIdempotent", spec := "foldIsIdempotent", recurses := true, loops := true, apart := false }
def FoldIsIdempotentSaid : Prop := foldIsIdempotentRow.holds Try.pinned (OpenSpec.ofChange foldIsIdempotentSpec)

/-- ITS FALSE NEIGHBOUR: 'it returns false'. Refute it at one input. -/
def foldIsIdempotentWrong : ChangeSpec := { name := "foldIsIdempotent", fn := fun _ => fun
  | [d] => { results := [.lit (.bool false)], args := [d] }
  | _ => none }
def FoldIsIdempotentWrongFalsely : Prop := foldIsIdempotentRow.holds Try.pinned (OpenSpec.ofChange foldIsIdempotentWrong)

/-- 'glossatorkeep2.FoldComputesArithmetic': WHATEVER THE INPUT: true; the input reads as it did. -/
def foldComputesArithmeticSpec : ChangeSpec := { name := "foldComputesArithmetic", fn := fun _ => fun
  | [d1, d2, d3] => { results := [.lit (.bool true)], args := [d1, d2, d3] }
  | _ => none }
def foldComputesArithmeticRow : OpenClaim := { program := "ytgphapkpoamcgaa", sum := "93d073da83542062fcc8e6ee28efd39bca9b8ea8fe2f0946ed904cb88e8f8fb3", func := "glossator/glossatorkeep2.FoldComputesArithmetic", spec := "foldComputesArithmetic", unfollowed := true, recurses := true, apart := false }
def FoldComputesArithmeticSaid : Prop := foldComputesArithmeticRow.holds Try.pinned (OpenSpec.ofChange foldComputesArithmeticSpec)

/-- ITS FALSE NEIGHBOUR: 'it returns false'. Refute it at one input. -/
def foldComputesArithmeticWrong : ChangeSpec := { name := "foldComputesArithmetic", fn := fun _ => fun
  | [d1, d2, d3] => { results := [.lit (.bool false)], args := [d1, d2, d3] }
  | _ => none }
def FoldComputesArithmeticWrongFalsely : Prop := foldComputesArithmeticRow.holds Try.pinned (OpenSpec.ofChange foldComputesArithmeticWrong)

/-- 'glossatorlaw2.FoldMatchesReference': WHATEVER THE INPUT: true; the input reads as it did. -/
def foldMatchesReferenceSpec : ChangeSpec := { name := "foldMatchesReference", fn := fun _ => fun
  | [d] => { results := [.lit (.bool true)], args := [d] }
  | _ => none }
def foldMatchesReferenceRow : OpenClaim := { program := "ytgphapkpoamcgaa", sum := "93d073da83542062fcc8e6ee28efd39bca9b8ea8fe2f0946ed904cb88e8f8fb3", func := "glossator/glossatorlaw2.FoldMatchesReference", spec := "foldMatchesReference", recurses := true, loops := true, apart := false }
def FoldMatchesReferenceSaid : Prop := foldMatchesReferenceRow.holds Try.pinned (OpenSpec.ofChange foldMatchesReferenceSpec)

/-- ITS FALSE NEIGHBOUR: 'it returns false'. Refute it at one input. -/
def foldMatchesReferenceWrong : ChangeSpec := { name := "foldMatchesReference", fn := fun _ => fun
  | [d] => { results := [.lit (.bool false)], args := [d] }
  | _ => none }
def FoldMatchesReferenceWrongFalsely : Prop := foldMatchesReferenceRow.holds Try.pinned (OpenSpec.ofChange foldMatchesReferenceWrong)

/-- 'glossatorkeep2.SubstituteEliminatesVariable': WHATEVER THE INPUT: true; the input reads as it did. -/
def substituteEliminatesVariableSpec : ChangeSpec := { name := "substituteEliminatesVariable", fn := fun _ => fun
  | [d1, d2, d3] => { results := [.lit (.bool true)], args := [d1, d2, d3] }
  | _ => none }
def substituteEliminatesVariableRow : OpenClaim := { program := "ytgphapkpoamcgaa", sum := "93d073da83542062fcc8e6ee28efd39bca9b8ea8fe2f0946ed904cb88e8f8fb3", func := "glossator/glossatorkeep2.SubstituteEliminatesVariable", spec := "substituteEliminatesVariable", unfollowed := true, recurses := true, loops := true, apart := false }
def SubstituteEliminatesVariableSaid : Prop := substituteEliminatesVariableRow.holds Try.pinned (OpenSpec.ofChange substituteEliminatesVariableSpec)

/-- ITS FALSE NEIGHBOUR: 'it returns false'. Refute it at one input. -/
def substituteEliminatesVariableWrong : ChangeSpec := { name := "substituteEliminatesVariable", fn := fun _ => fun
  | [d1, d2, d3] => { results := [.lit (.bool false)], args := [d1, d2, d3] }
  | _ => none }
def SubstituteEliminatesVariableWrongFalsely : Prop := substituteEliminatesVariableRow.holds Try.pinned (OpenSpec.ofChange substituteEliminatesVariableWrong)

/-- 'glossatorkeep2.SubstituteCommutes': WHATEVER THE INPUT: true; the input reads as it did. -/
def substituteCommutesSpec : ChangeSpec := { name := "substituteCommutes", fn := fun _ => fun
  | [d1, d2, d3, d4, d5] => { results := [.lit (.bool true)], args := [d1, d2, d3, d4, d5] }
  | _ => none }
def substituteCommutesRow : OpenClaim := { program := "ytgphapkpoamcgaa", sum := "93d073da83542062fcc8e6ee28efd39bca9b8ea8fe2f0946ed904cb88e8f8fb3", func := "glossator/glossatorkeep2.SubstituteCommutes", spec := "substituteCommutes", unfollowed := true, recurses := true, loops := true, apart := false }
def SubstituteCommutesSaid : Prop := substituteCommutesRow.holds Try.pinned (OpenSpec.ofChange substituteCommutesSpec)

/-- ITS FALSE NEIGHBOUR: 'it returns false'. Refute it at one input. -/
def substituteCommutesWrong : ChangeSpec := { name := "substituteCommutes", fn := fun _ => fun
  | [d1, d2, d3, d4, d5] => { results := [.lit (.bool false)], args := [d1, d2, d3, d4, d5] }
  | _ => none }
def SubstituteCommutesWrongFalsely : Prop := substituteCommutesRow.holds Try.pinned (OpenSpec.ofChange substituteCommutesWrong)

/-- 'glossatorlaw2.TypeOperations': WHATEVER THE INPUT: true; the input reads as it did. -/
def typeOperationsSpec : ChangeSpec := { name := "typeOperations", fn := fun _ => fun
  | [d1, d2, d3] => { results := [.lit (.bool true)], args := [d1, d2, d3] }
  | _ => none }
def typeOperationsRow : OpenClaim := { program := "ytgphapkpoamcgaa", sum := "93d073da83542062fcc8e6ee28efd39bca9b8ea8fe2f0946ed904cb88e8f8fb3", func := "glossator/glossatorlaw2.TypeOperations", spec := "typeOperations", unfollowed := true, recurses := true, loops := true, apart := false }
def TypeOperationsSaid : Prop := typeOperationsRow.holds Try.pinned (OpenSpec.ofChange typeOperationsSpec)

/-- ITS FALSE NEIGHBOUR: 'it returns false'. Refute it at one input. -/
def typeOperationsWrong : ChangeSpec := { name := "typeOperations", fn := fun _ => fun
  | [d1, d2, d3] => { results := [.lit (.bool false)], args := [d1, d2, d3] }
  | _ => none }
def TypeOperationsWrongFalsely : Prop := typeOperationsRow.holds Try.pinned (OpenSpec.ofChange typeOperationsWrong)

/-- 'glossatorlaw2.FormatMatchesReference': WHATEVER THE INPUT: true; the input reads as it did. -/
def formatMatchesReferenceSpec : ChangeSpec := { name := "formatMatchesReference", fn := fun _ => fun
  | [d1, d2] => { results := [.lit (.bool true)], args := [d1, d2] }
  | _ => none }
def formatMatchesReferenceRow : OpenClaim := { program := "ytgphapkpoamcgaa", sum := "93d073da83542062fcc8e6ee28efd39bca9b8ea8fe2f0946ed904cb88e8f8fb3", func := "glossator/glossatorlaw2.FormatMatchesReference", spec := "formatMatchesReference", inPlace := ["internal/abi.NoEscape", "internal/bytealg.MakeNoZero"], recurses := true, loops := true, apart := false }
def FormatMatchesReferenceSaid : Prop := formatMatchesReferenceRow.holds Try.pinned (OpenSpec.ofChange formatMatchesReferenceSpec)

/-- ITS FALSE NEIGHBOUR: 'it returns false'. Refute it at one input. -/
def formatMatchesReferenceWrong : ChangeSpec := { name := "formatMatchesReference", fn := fun _ => fun
  | [d1, d2] => { results := [.lit (.bool false)], args := [d1, d2] }
  | _ => none }
def FormatMatchesReferenceWrongFalsely : Prop := formatMatchesReferenceRow.holds Try.pinned (OpenSpec.ofChange formatMatchesReferenceWrong)

/-- 'glossatorlaw1.GreentreeReference': WHATEVER THE INPUT: true; the input reads as it did. -/
def greentreeReferenceSpec : ChangeSpec := { name := "greentreeReference", fn := fun _ => fun
  | [d1, d2, d3] => { results := [.lit (.bool true)], args := [d1, d2, d3] }
  | _ => none }
def greentreeReferenceRow : OpenClaim := { program := "ytgphapkpoamcgaa", sum := "93d073da83542062fcc8e6ee28efd39bca9b8ea8fe2f0946ed904cb88e8f8fb3", func := "glossator/glossatorlaw1.GreentreeReference", spec := "greentreeReference", unfollowed := true, recurses := true, loops := true, apart := false }
def GreentreeReferenceSaid : Prop := greentreeReferenceRow.holds Try.pinned (OpenSpec.ofChange greentreeReferenceSpec)

/-- ITS FALSE NEIGHBOUR: 'it returns false'. Refute it at one input. -/
def greentreeReferenceWrong : ChangeSpec := { name := "greentreeReference", fn := fun _ => fun
  | [d1, d2, d3] => { results := [.lit (.bool false)], args := [d1, d2, d3] }
  | _ => none }
def GreentreeReferenceWrongFalsely : Prop := greentreeReferenceRow.holds Try.pinned (OpenSpec.ofChange greentreeReferenceWrong)

/- THE SECOND FORM. 'bulk': how many values and letters a reading holds, each counted each time it is reached (what is shared counts as often as it is met; a slice's spare places count too). A statement '..UptoSaid' is the law's where the arguments, and the package variables that the reading takes, are together of bulk at most 1048576: NARROWER than '..Said'. Prove '..Said' where nothing that the law and all that it calls make is longer than what came in: it says more and counts as full. Else prove '..UptoSaid'. A law counts once. -/
mutual
def uptoBulk {H : Type} : DataW H → Nat
  | .lit (.string bytes) => bytes.length + 1
  | .lit _ => 1
  | .nil => 1
  | .ptr d => uptoBulk d + 1
  | .slice elems spare => uptoBulkAll elems + uptoBulkAll spare + 1
  | .agg parts => uptoBulkAll parts + 1
  | .iface _ d => uptoBulk d + 1
  | .map entries => uptoBulkEntries entries + 1
  | .held _ => 1
def uptoBulkAll {H : Type} : List (DataW H) → Nat
  | [] => 0
  | d :: r => uptoBulk d + uptoBulkAll r
def uptoBulkEntries {H : Type} : List (Lit × DataW H) → Nat
  | [] => 0
  | x :: r => uptoBulkEntry x + uptoBulkEntries r
def uptoBulkEntry {H : Type} : Lit × DataW H → Nat
  | (.string bytes, d) => bytes.length + uptoBulk d + 1
  | (_, d) => uptoBulk d + 1
 end
def uptoSmall : (H : Type) → List (DataW H) → Bool := fun _ ds => decide (uptoBulkAll ds ≤ 1048576)
def OpenSpec.upto (s : _root_.Go.ChangeSpec) : _root_.Go.OpenSpec := { _root_.Go.OpenSpec.ofChange s with cond := some uptoSmall }

/-- 'glossatorkeep2.SchemeMatchRoundTrip', WHERE WHAT IT READS IS OF BULK AT MOST 1048576: true; the input reads as it did. -/
def schemeMatchRoundTripUptoRow : OpenClaim := { program := "ytgphapkpoamcgaa", sum := "93d073da83542062fcc8e6ee28efd39bca9b8ea8fe2f0946ed904cb88e8f8fb3", func := "glossator/glossatorkeep2.SchemeMatchRoundTrip", spec := "schemeMatchRoundTrip", unfollowed := true, recurses := true, loops := true, apart := false, narrowed := true }
def SchemeMatchRoundTripUptoSaid : Prop := schemeMatchRoundTripUptoRow.holds Try.pinned (OpenSpec.upto schemeMatchRoundTripSpec)

/-- 'glossatorkeep2.SchemeIgnoresAbsentParameters', WHERE WHAT IT READS IS OF BULK AT MOST 1048576: true; the input reads as it did. -/
def schemeIgnoresAbsentParametersUptoRow : OpenClaim := { program := "ytgphapkpoamcgaa", sum := "93d073da83542062fcc8e6ee28efd39bca9b8ea8fe2f0946ed904cb88e8f8fb3", func := "glossator/glossatorkeep2.SchemeIgnoresAbsentParameters", spec := "schemeIgnoresAbsentParameters", unfollowed := true, recurses := true, loops := true, apart := false, narrowed := true }
def SchemeIgnoresAbsentParametersUptoSaid : Prop := schemeIgnoresAbsentParametersUptoRow.holds Try.pinned (OpenSpec.upto schemeIgnoresAbsentParametersSpec)

/-- 'glossatorkeep2.FoldIsIdempotent', WHERE WHAT IT READS IS OF BULK AT MOST 1048576: true; the input reads as it did. -/
def foldIsIdempotentUptoRow : OpenClaim := { program := "ytgphapkpoamcgaa", sum := "93d073da83542062fcc8e6ee28efd39bca9b8ea8fe2f0946ed904cb88e8f8fb3", func := "glossator/glossatorkeep2.FoldIsIdempotent", spec := "foldIsIdempotent", recurses := true, loops := true, apart := false, narrowed := true }
def FoldIsIdempotentUptoSaid : Prop := foldIsIdempotentUptoRow.holds Try.pinned (OpenSpec.upto foldIsIdempotentSpec)

/-- 'glossatorkeep2.FoldComputesArithmetic', WHERE WHAT IT READS IS OF BULK AT MOST 1048576: true; the input reads as it did. -/
def foldComputesArithmeticUptoRow : OpenClaim := { program := "ytgphapkpoamcgaa", sum := "93d073da83542062fcc8e6ee28efd39bca9b8ea8fe2f0946ed904cb88e8f8fb3", func := "glossator/glossatorkeep2.FoldComputesArithmetic", spec := "foldComputesArithmetic", unfollowed := true, recurses := true, apart := false, narrowed := true }
def FoldComputesArithmeticUptoSaid : Prop := foldComputesArithmeticUptoRow.holds Try.pinned (OpenSpec.upto foldComputesArithmeticSpec)

/-- 'glossatorlaw2.FoldMatchesReference', WHERE WHAT IT READS IS OF BULK AT MOST 1048576: true; the input reads as it did. -/
def foldMatchesReferenceUptoRow : OpenClaim := { program := "ytgphapkpoamcgaa", sum := "93d073da83542062fcc8e6ee28efd39bca9b8ea8fe2f0946ed904cb88e8f8fb3", func := "glossator/glossatorlaw2.FoldMatchesReference", spec := "foldMatchesReference", recurses := true, loops := true, apart := false, narrowed := true }
def FoldMatchesReferenceUptoSaid : Prop := foldMatchesReferenceUptoRow.holds Try.pinned (OpenSpec.upto foldMatchesReferenceSpec)

/-- 'glossatorkeep2.SubstituteEliminatesVariable', WHERE WHAT IT READS IS OF BULK AT MOST 1048576: true; the input reads as it did. -/
def substituteEliminatesVariableUptoRow : OpenClaim := { program := "ytgphapkpoamcgaa", sum := "93d073da83542062fcc8e6ee28efd39bca9b8ea8fe2f0946ed904cb88e8f8fb3", func := "glossator/glossatorkeep2.SubstituteEliminatesVariable", spec := "substituteEliminatesVariable", unfollowed := true, recurses := true, loops := true, apart := false, narrowed := true }
def SubstituteEliminatesVariableUptoSaid : Prop := substituteEliminatesVariableUptoRow.holds Try.pinned (OpenSpec.upto substituteEliminatesVariableSpec)

/-- 'glossatorkeep2.SubstituteCommutes', WHERE WHAT IT READS IS OF BULK AT MOST 1048576: true; the input reads as it did. -/
def substituteCommutesUptoRow : OpenClaim := { program := "ytgphapkpoamcgaa", sum := "93d073da83542062fcc8e6ee28efd39bca9b8ea8fe2f0946ed904cb88e8f8fb3", func := "glossator/glossatorkeep2.SubstituteCommutes", spec := "substituteCommutes", unfollowed := true, recurses := true, loops := true, apart := false, narrowed := true }
def SubstituteCommutesUptoSaid : Prop := substituteCommutesUptoRow.holds Try.pinned (OpenSpec.upto substituteCommutesSpec)

/-- 'glossatorlaw2.TypeOperations', WHERE WHAT IT READS IS OF BULK AT MOST 1048576: true; the input reads as it did. -/
def typeOperationsUptoRow : OpenClaim := { program := "ytgphapkpoamcgaa", sum := "93d073da83542062fcc8e6ee28efd39bca9b8ea8fe2f0946ed904cb88e8f8fb3", func := "glossator/glossatorlaw2.TypeOperations", spec := "typeOperations", unfollowed := true, recurses := true, loops := true, apart := false, narrowed := true }
def TypeOperationsUptoSaid : Prop := typeOperationsUptoRow.holds Try.pinned (OpenSpec.upto typeOperationsSpec)

/-- 'glossatorlaw2.FormatMatchesReference', WHERE WHAT IT READS IS OF BULK AT MOST 1048576: true; the input reads as it did. -/
def formatMatchesReferenceUptoRow : OpenClaim := { program := "ytgphapkpoamcgaa", sum := "93d073da83542062fcc8e6ee28efd39bca9b8ea8fe2f0946ed904cb88e8f8fb3", func := "glossator/glossatorlaw2.FormatMatchesReference", spec := "formatMatchesReference", inPlace := ["internal/abi.NoEscape", "internal/bytealg.MakeNoZero"], recurses := true, loops := true, apart := false, narrowed := true }
def FormatMatchesReferenceUptoSaid : Prop := formatMatchesReferenceUptoRow.holds Try.pinned (OpenSpec.upto formatMatchesReferenceSpec)

/-- 'glossatorlaw1.GreentreeReference', WHERE WHAT IT READS IS OF BULK AT MOST 1048576: true; the input reads as it did. -/
def greentreeReferenceUptoRow : OpenClaim := { program := "ytgphapkpoamcgaa", sum := "93d073da83542062fcc8e6ee28efd39bca9b8ea8fe2f0946ed904cb88e8f8fb3", func := "glossator/glossatorlaw1.GreentreeReference", spec := "greentreeReference", unfollowed := true, recurses := true, loops := true, apart := false, narrowed := true }
def GreentreeReferenceUptoSaid : Prop := greentreeReferenceUptoRow.holds Try.pinned (OpenSpec.upto greentreeReferenceSpec)

end Rows
end Go.Proofs.Ytgphapkpoamcgaa
