/- The compact texts of the functions, printed by a program of mine (wip/tools/PrintFn.lean); each is shown to be what the translation compiles to. -/
import Derived.Test.YtgphapkpoamcgaaBb17
import Derived.Test.YtgphapkpoamcgaaProg
set_option maxRecDepth 100000
namespace Go.Proofs.Ytgphapkpoamcgaa
open Go Go.Ab
theorem mixedE : Try.prog.follows .mixedOrders = true := by kernel_rfl
/- glossator/glossatorref2.InRange -/
def ac78 : AC := .seq
 (.reg [⟨some 6, .mov (.const (.bool false)), none⟩])
 (.seq
  (.reg [⟨some 7, .mov (.tmp 1), none⟩,
    ⟨some 8, .mov (.tmp 0), none⟩,
    ⟨some 9, .bin .leq .int (.tmp 7) (.tmp 8), none⟩,
    ⟨some 10, .mov (.tmp 9), none⟩,
    ⟨some 11, .mov (.tmp 0), some (10, true)⟩,
    ⟨some 12, .mov (.tmp 2), some (10, true)⟩,
    ⟨some 13, .bin .leq .int (.tmp 11) (.tmp 12), some (10, true)⟩,
    ⟨some 14, .pick (.tmp 10) (.tmp 13) (.const (.bool false)), none⟩,
    ⟨some 6, .mov (.tmp 14), none⟩])
  (.ret))
theorem fn78 : Fun Try.prog 78 15 ac78 [.tmp 6] := ⟨mixedE, Try.f78, _, Try.func78, rfl, by decide +kernel, rfl, by kernel_rfl, by kernel_rfl⟩
end Go.Proofs.Ytgphapkpoamcgaa
