/- The compact texts of the functions, printed by a program of mine (wip/tools/PrintFn.lean); each is shown to be what the translation compiles to. -/
import Derived.Test.YtiediojibljpiaaVK2
import Derived.Test.YtiediojibljpiaaProg
set_option maxRecDepth 100000
namespace Go.Proofs.Ytiediojibljpiaa
open Go Go.Ab
theorem mixedX : Try.prog.follows .mixedOrders = true := by kernel_rfl
/- slices.Backward[[]glossator/api.Equation,glossator/api.Equation] -/
def ac15 : AC := .seq
 (.reg [⟨some 1, .box 22 1 (.tmp 0), none⟩,
   ⟨some 2, .mov (.const .nilFunc), none⟩])
 (.seq
  (.reg [⟨some 3, .mkfn 49 [(.tmp 1)], none⟩,
    ⟨some 2, .mov (.tmp 3), none⟩])
  (.ret))
theorem fn15 : Fun Try.prog 15 4 ac15 [.tmp 2] := ⟨mixedX, Try.f15, _, Try.func15, rfl, by decide +kernel, rfl, by kernel_rfl, by kernel_rfl⟩
/- slices.Backward[[]glossator/api.Equation,glossator/api.Equation]$1 -/
end Go.Proofs.Ytiediojibljpiaa
