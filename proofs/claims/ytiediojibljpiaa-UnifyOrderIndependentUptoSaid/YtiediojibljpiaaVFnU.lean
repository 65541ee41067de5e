/- The compact texts of the functions, printed by a program of mine (wip/tools/PrintFn.lean); each is shown to be what the translation compiles to. -/
import Derived.Test.YtiediojibljpiaaVK2
import Derived.Test.YtiediojibljpiaaProg
set_option maxRecDepth 100000
namespace Go.Proofs.Ytiediojibljpiaa
open Go Go.Ab
theorem mixedU : Try.prog.follows .mixedOrders = true := by kernel_rfl
/- glossator/glossatorlaw2.UnifyMatchesReference -/
/- glossator/glossatorkeep2.UnifySolvesEquations -/
/- glossator/glossatorkeep2.UnifyMonotone -/
/- glossator/glossatorkeep2.UnifyMostGeneral -/
/- glossator/glossatorlaw2.unifyWorks -/
/- glossator/unify.Unify -/
def ac9_l0 : AC := .seq
 (.reg [⟨some 21, .bin .lss .int (.tmp 20) (.tmp 19), none⟩])
 (.seq
 (.cond (.tmp 21)
 (.skip)
 (.exit 0))
 (.seq
 (.block 1
 (.seq
 (.reg [⟨some 22, .iaddr 6 (.tmp 18) (.tmp 20), none⟩,
 ⟨some 23, .load true 6 (.tmp 22), none⟩,
 ⟨some 6, .alloc 31 6 [(.int .i64 0), (.int .i64 0), (.slice none 0 0), (.int .i64 0), (.int .i64 0), (.slice none 0 0)], none⟩,
 ⟨none, .store 6 (.tmp 6) (.tmp 23), none⟩])
 (.seq
 (.reg [⟨some 24, .mov (.tmp 4), none⟩,
 ⟨some 25, .faddr 0 (.tmp 6), none⟩,
 ⟨some 26, .load true 3 (.tmp 25), none⟩,
 ⟨some 27, .faddr 3 (.tmp 6), none⟩,
 ⟨some 28, .load true 3 (.tmp 27), none⟩,
 ⟨some 29, .call (.func 33) [(.tmp 24), (.tmp 26), (.tmp 28)], none⟩,
 ⟨some 30, .un .not (.tmp 29), none⟩])
 (.cond (.tmp 30)
 (.seq
 (.reg [⟨some 2, .mov (.const (.slice none 0 0)), none⟩,
 ⟨some 3, .mov (.const (.bool false)), none⟩])
 (.ret))
 (.skip)))))
 (.reg [⟨some 31, .bin .add .int (.tmp 20) (.const (.int .i64 1)), none⟩,
 ⟨some 20, .mov (.tmp 31), none⟩])))
def ac9_l1 : AC := .seq
 (.reg [⟨some 37, .mnext (.tmp 36), none⟩,
 ⟨some 38, .ext (.tmp 37) 0, none⟩])
 (.seq
 (.cond (.tmp 38)
 (.skip)
 (.exit 2))
 (.block 3
 (.seq
 (.reg [⟨some 39, .mentry (.tmp 36), none⟩,
 ⟨some 40, .ext (.tmp 39) 0, none⟩,
 ⟨some 41, .ext (.tmp 39) 1, none⟩,
 ⟨some 9, .alloc 29 3 [(.int .i64 0), (.int .i64 0), (.slice none 0 0)], none⟩,
 ⟨some 8, .mov (.tmp 40), none⟩,
 ⟨none, .store 3 (.tmp 9) (.tmp 41), none⟩])
 (.seq
 (.seq
 (.reg [⟨some 42, .mov (.tmp 4), none⟩,
 ⟨some 43, .load true 3 (.tmp 9), none⟩,
 ⟨some 44, .call (.func 34) [(.tmp 42), (.tmp 43)], none⟩,
 ⟨some 45, .un .not (.tmp 44), none⟩])
 (.cond (.tmp 45)
 (.seq
 (.reg [⟨some 2, .mov (.const (.slice none 0 0)), none⟩,
 ⟨some 3, .mov (.const (.bool false)), none⟩])
 (.ret))
 (.skip)))
 (.reg [⟨some 46, .mov (.tmp 7), none⟩,
 ⟨some 47, .mov (.tmp 8), none⟩,
 ⟨some 48, .mov (.tmp 4), none⟩,
 ⟨some 49, .load true 3 (.tmp 9), none⟩,
 ⟨some 50, .call (.func 35) [(.tmp 48), (.tmp 49)], none⟩,
 ⟨some 51, .build [(.int .i64 0), (.int .i64 0), (.int .i64 0), (.slice none 0 0)] [(0, 1), (1, 3)] [(0, (.tmp 47)), (1, (.tmp 50))], none⟩,
 ⟨some 52, .bslice 42 4 [(.int .i64 0), (.int .i64 0), (.int .i64 0), (.slice none 0 0)] 1 [(0, (.tmp 51))], none⟩,
 ⟨some 53, .app 42 4 (.tmp 46) (.tmp 52), none⟩,
 ⟨some 7, .mov (.tmp 53), none⟩])))))
def ac9 : AC := .seq
 (.reg [⟨some 2, .mov (.const (.slice none 0 0)), none⟩,
 ⟨some 3, .mov (.const (.bool false)), none⟩])
 (.seq
 (.seq
 (.reg [⟨some 10, .mov (.tmp 0), none⟩,
 ⟨some 11, .slen false (.tmp 10), none⟩,
 ⟨some 12, .bin .gtr .int (.tmp 11) (.const (.int .i64 100)), none⟩,
 ⟨some 13, .mov (.tmp 12), none⟩,
 ⟨some 14, .mov (.tmp 0), some (13, false)⟩,
 ⟨some 15, .call (.func 30) [(.tmp 14), (.func 31)], some (13, false)⟩,
 ⟨some 16, .pick (.tmp 13) (.const (.bool true)) (.tmp 15), none⟩])
 (.cond (.tmp 16)
 (.seq
 (.reg [⟨some 2, .mov (.const (.slice none 0 0)), none⟩,
 ⟨some 3, .mov (.const (.bool false)), none⟩])
 (.ret))
 (.skip)))
 (.seq
 (.reg [⟨some 17, .call (.func 32) [], none⟩,
 ⟨some 4, .mov (.tmp 17), none⟩])
 (.seq
 (.seq
 (.reg [⟨some 18, .mov (.tmp 0), none⟩,
 ⟨some 19, .slen false (.tmp 18), none⟩,
 ⟨some 20, .mov (.const (.int .i64 0)), none⟩])
 (.block 0
 (.loop ac9_l0)))
 (.seq
 (.reg [⟨some 7, .mov (.const (.slice none 0 0)), none⟩])
 (.seq
 (.seq
 (.reg [⟨some 32, .mov (.tmp 4), none⟩,
 ⟨some 33, .nilc (.tmp 32), none⟩,
 ⟨some 34, .faddr 0 (.tmp 33), none⟩,
 ⟨some 35, .load false 1 (.tmp 34), none⟩,
 ⟨some 36, .mrange (.tmp 35), none⟩])
 (.block 2
 (.loop ac9_l1)))
 (.seq
 (.reg [⟨some 54, .mov (.tmp 7), none⟩,
 ⟨some 55, .call (.func 36) [(.tmp 54), (.func 37)], none⟩])
 (.seq
 (.reg [⟨some 56, .mov (.tmp 7), none⟩,
 ⟨some 2, .mov (.tmp 56), none⟩,
 ⟨some 3, .mov (.const (.bool true)), none⟩])
 (.ret))))))))
theorem fn9 : Fun Try.prog 9 57 ac9 [.tmp 2, .tmp 3] := ⟨mixedU, Try.f9, _, Try.func9, rfl, by decide +kernel, rfl, by kernel_rfl, by kernel_rfl⟩
/- glossator/glossatorref2.TypeError -/
/- glossator/glossatorref2.MostGeneralUnifier -/
/- glossator/glossatorref2.BindingsEqual -/
def ac12_l0 : AC := .seq
 (.reg [⟨some 14, .bin .lss .int (.tmp 13) (.tmp 12), none⟩])
 (.seq
 (.cond (.tmp 14)
 (.skip)
 (.exit 0))
 (.seq
 (.block 1
 (.seq
 (.reg [⟨some 15, .mov (.tmp 13), none⟩,
 ⟨some 5, .mov (.tmp 15), none⟩])
 (.seq
 (.dreg [⟨some 16, .mov (.tmp 0), none⟩,
 ⟨some 17, .mov (.tmp 5), none⟩,
 ⟨some 18, .iaddr 4 (.tmp 16) (.tmp 17), none⟩,
 ⟨some 19, .faddr 0 (.tmp 18), none⟩,
 ⟨some 20, .load false 1 (.tmp 19), none⟩,
 ⟨some 21, .mov (.tmp 1), none⟩,
 ⟨some 22, .mov (.tmp 5), none⟩,
 ⟨some 23, .iaddr 4 (.tmp 21) (.tmp 22), none⟩,
 ⟨some 24, .faddr 0 (.tmp 23), none⟩,
 ⟨some 25, .load false 1 (.tmp 24), none⟩,
 ⟨some 26, .bin .neq .int (.tmp 20) (.tmp 25), none⟩,
 ⟨some 27, .mov (.tmp 26), none⟩,
 ⟨some 28, .mov (.tmp 0), some (27, false)⟩,
 ⟨some 29, .mov (.tmp 5), some (27, false)⟩,
 ⟨some 30, .iaddr 4 (.tmp 28) (.tmp 29), some (27, false)⟩,
 ⟨some 31, .faddr 1 (.tmp 30), some (27, false)⟩,
 ⟨some 32, .load true 3 (.tmp 31), some (27, false)⟩,
 ⟨some 33, .mov (.tmp 1), some (27, false)⟩,
 ⟨some 34, .mov (.tmp 5), some (27, false)⟩,
 ⟨some 35, .iaddr 4 (.tmp 33) (.tmp 34), some (27, false)⟩,
 ⟨some 36, .faddr 1 (.tmp 35), some (27, false)⟩,
 ⟨some 37, .load true 3 (.tmp 36), some (27, false)⟩,
 ⟨some 38, .call (.func 45) [(.tmp 32), (.tmp 37)], some (27, false)⟩,
 ⟨some 39, .un .not (.tmp 38), some (27, false)⟩,
 ⟨some 40, .pick (.tmp 27) (.const (.bool true)) (.tmp 39), none⟩]
 [[], [], [0, 1], [2], [3], [], [], [5, 6], [7], [8], [4, 9], [10], [11], [11], [12, 13, 11], [14, 11], [15, 11], [11], [11], [17, 18, 11], [19, 11], [20, 11], [16, 21, 11, 11], [22, 11], [11, 23]]
 [[0], [5], [16, 17], [18], [19], [1], [5], [21, 22], [23], [24], [20, 25], [26], [0, 27], [5, 27], [28, 29, 27], [30, 27], [31, 27], [1, 27], [5, 27], [33, 34, 27], [35, 27], [36, 27], [32, 37, 27], [38, 27], [27, 39]])
 (.cond (.tmp 40)
 (.seq
 (.reg [⟨some 4, .mov (.const (.bool false)), none⟩])
 (.ret))
 (.skip)))))
 (.reg [⟨some 41, .bin .add .int (.tmp 13) (.const (.int .i64 1)), none⟩,
 ⟨some 13, .mov (.tmp 41), none⟩])))
def ac12 : AC := .seq
 (.reg [⟨some 4, .mov (.const (.bool false)), none⟩])
 (.seq
 (.seq
 (.reg [⟨some 6, .mov (.tmp 0), none⟩,
 ⟨some 7, .slen false (.tmp 6), none⟩,
 ⟨some 8, .mov (.tmp 1), none⟩,
 ⟨some 9, .slen false (.tmp 8), none⟩,
 ⟨some 10, .bin .neq .int (.tmp 7) (.tmp 9), none⟩])
 (.cond (.tmp 10)
 (.seq
 (.reg [⟨some 4, .mov (.const (.bool false)), none⟩])
 (.ret))
 (.skip)))
 (.seq
 (.seq
 (.reg [⟨some 11, .mov (.tmp 0), none⟩,
 ⟨some 12, .slen false (.tmp 11), none⟩,
 ⟨some 13, .mov (.const (.int .i64 0)), none⟩])
 (.block 0
 (.loop ac12_l0)))
 (.seq
 (.reg [⟨some 4, .mov (.const (.bool true)), none⟩])
 (.ret))))
theorem fn12 : Fun Try.prog 12 42 ac12 [.tmp 4] := ⟨mixedU, Try.f12, _, Try.func12, rfl, by decide +kernel, rfl, by kernel_rfl, by kernel_rfl⟩
/- glossator/glossatorkeep2.unifyWorks -/
def ac13 : AC := .seq
 (.reg [⟨some 0, .mov (.const (.bool false)), none⟩])
 (.seq
 (.reg [⟨some 6, .call (.func 19) [(.const (.int .i64 1))], none⟩,
 ⟨some 7, .call (.func 19) [(.const (.int .i64 2))], none⟩,
 ⟨some 8, .bslice 29 3 [(.int .i64 0), (.int .i64 0), (.slice none 0 0)] 2 [(0, (.tmp 6)), (1, (.tmp 7))], none⟩,
 ⟨some 9, .call (.func 26) [(.const (.int .i64 9)), (.const (.int .i64 0)), (.tmp 8)], none⟩,
 ⟨some 10, .call (.func 46) [], none⟩,
 ⟨some 11, .call (.func 19) [(.const (.int .i64 1))], none⟩,
 ⟨some 12, .bslice 29 3 [(.int .i64 0), (.int .i64 0), (.slice none 0 0)] 2 [(0, (.tmp 10)), (1, (.tmp 11))], none⟩,
 ⟨some 13, .call (.func 26) [(.const (.int .i64 9)), (.const (.int .i64 0)), (.tmp 12)], none⟩,
 ⟨some 14, .build [(.int .i64 0), (.int .i64 0), (.slice none 0 0), (.int .i64 0), (.int .i64 0), (.slice none 0 0)] [(0, 3), (3, 3)] [(0, (.tmp 9)), (1, (.tmp 13))], none⟩,
 ⟨some 15, .bslice 31 6 [(.int .i64 0), (.int .i64 0), (.slice none 0 0), (.int .i64 0), (.int .i64 0), (.slice none 0 0)] 1 [(0, (.tmp 14))], none⟩,
 ⟨some 16, .call (.func 9) [(.tmp 15)], none⟩,
 ⟨some 5, .mov (.tmp 16), none⟩,
 ⟨some 17, .ext (.tmp 5) 0, none⟩,
 ⟨some 18, .ext (.tmp 5) 1, none⟩,
 ⟨some 1, .mov (.tmp 17), none⟩,
 ⟨some 2, .mov (.tmp 18), none⟩])
 (.seq
 (.reg [⟨some 20, .call (.func 19) [(.const (.int .i64 0))], none⟩,
 ⟨some 21, .call (.func 19) [(.const (.int .i64 0))], none⟩,
 ⟨some 22, .bslice 29 3 [(.int .i64 0), (.int .i64 0), (.slice none 0 0)] 1 [(0, (.tmp 21))], none⟩,
 ⟨some 23, .call (.func 26) [(.const (.int .i64 8)), (.const (.int .i64 0)), (.tmp 22)], none⟩,
 ⟨some 24, .build [(.int .i64 0), (.int .i64 0), (.slice none 0 0), (.int .i64 0), (.int .i64 0), (.slice none 0 0)] [(0, 3), (3, 3)] [(0, (.tmp 20)), (1, (.tmp 23))], none⟩,
 ⟨some 25, .bslice 31 6 [(.int .i64 0), (.int .i64 0), (.slice none 0 0), (.int .i64 0), (.int .i64 0), (.slice none 0 0)] 1 [(0, (.tmp 24))], none⟩,
 ⟨some 26, .call (.func 9) [(.tmp 25)], none⟩,
 ⟨some 19, .mov (.tmp 26), none⟩,
 ⟨some 27, .ext (.tmp 19) 0, none⟩,
 ⟨some 28, .ext (.tmp 19) 1, none⟩,
 ⟨some 3, .mov (.tmp 27), none⟩,
 ⟨some 4, .mov (.tmp 28), none⟩])
 (.seq
 (.reg [⟨some 29, .mov (.tmp 2), none⟩,
 ⟨some 30, .mov (.tmp 29), none⟩,
 ⟨some 31, .mov (.tmp 4), some (30, true)⟩,
 ⟨some 32, .un .not (.tmp 31), some (30, true)⟩,
 ⟨some 33, .pick (.tmp 30) (.tmp 32) (.const (.bool false)), none⟩,
 ⟨some 34, .mov (.tmp 33), none⟩,
 ⟨some 35, .mov (.tmp 1), some (34, true)⟩,
 ⟨some 36, .call (.func 46) [], some (34, true)⟩,
 ⟨some 37, .build [(.int .i64 0), (.int .i64 0), (.int .i64 0), (.slice none 0 0)] [(0, 1), (1, 3)] [(0, (.const (.int .i64 1))), (1, (.tmp 36))], some (34, true)⟩,
 ⟨some 38, .call (.func 46) [], some (34, true)⟩,
 ⟨some 39, .build [(.int .i64 0), (.int .i64 0), (.int .i64 0), (.slice none 0 0)] [(0, 1), (1, 3)] [(0, (.const (.int .i64 2))), (1, (.tmp 38))], some (34, true)⟩,
 ⟨some 40, .bslice 42 4 [(.int .i64 0), (.int .i64 0), (.int .i64 0), (.slice none 0 0)] 2 [(0, (.tmp 37)), (1, (.tmp 39))], some (34, true)⟩,
 ⟨some 41, .call (.func 12) [(.tmp 35), (.tmp 40)], some (34, true)⟩,
 ⟨some 42, .pick (.tmp 34) (.tmp 41) (.const (.bool false)), none⟩,
 ⟨some 0, .mov (.tmp 42), none⟩])
 (.ret))))
theorem fn13 : Fun Try.prog 13 43 ac13 [.tmp 0] := ⟨mixedU, Try.f13, _, Try.func13, rfl, by decide +kernel, rfl, by kernel_rfl, by kernel_rfl⟩
/- glossator/glossatorkeep2.anyErrorType -/
def ac14 : AC := .seq
 (.reg [⟨some 2, .mov (.const (.bool false)), none⟩])
 (.seq
 (.reg [⟨some 3, .mov (.tmp 0), none⟩,
 ⟨some 4, .call (.func 30) [(.tmp 3), (.func 47)], none⟩,
 ⟨some 2, .mov (.tmp 4), none⟩])
 (.ret))
theorem fn14 : Fun Try.prog 14 5 ac14 [.tmp 2] := ⟨mixedU, Try.f14, _, Try.func14, rfl, by decide +kernel, rfl, by kernel_rfl, by kernel_rfl⟩
/- glossator/types.Equal -/
/- glossator/types.Substitute -/
/- slices.Clone[[]glossator/api.Equation,glossator/api.Equation] -/
/- glossator/glossatorkeep2.typeVar -/
def ac19 : AC := .seq
 (.reg [⟨some 2, .alloc 29 3 [(.int .i64 0), (.int .i64 0), (.slice none 0 0)], none⟩])
 (.seq
 (.reg [⟨some 3, .mov (.tmp 0), none⟩,
 ⟨some 4, .call (.func 26) [(.const (.int .i64 1)), (.tmp 3), (.const (.slice none 0 0))], none⟩,
 ⟨none, .store 3 (.tmp 2) (.tmp 4), none⟩])
 (.ret))
theorem fn19 : Fun Try.prog 19 5 ac19 [.cell 2 3 true] := ⟨mixedU, Try.f19, _, Try.func19, rfl, by decide +kernel, rfl, by kernel_rfl, by kernel_rfl⟩
/- glossator/glossatorkeep2.allOK -/
/- glossator/types.Validate -/
def ac21 : AC := .seq
 (.reg [⟨some 1, .box 29 3 (.tmp 0), none⟩,
 ⟨some 2, .mov (.const (.int .i64 0)), none⟩])
 (.seq
 (.seq
 (.reg [⟨some 6, .load true 3 (.tmp 1), none⟩,
 ⟨some 7, .call (.func 56) [(.tmp 6), (.const (.int .i64 100))], none⟩,
 ⟨some 5, .mov (.tmp 7), none⟩,
 ⟨some 8, .ext (.tmp 5) 0, none⟩,
 ⟨some 9, .ext (.tmp 5) 1, none⟩,
 ⟨some 3, .mov (.tmp 8), none⟩,
 ⟨some 4, .mov (.tmp 9), none⟩])
 (.seq
 (.reg [⟨some 10, .mov (.tmp 3), none⟩,
 ⟨some 11, .bin .gtr .int (.tmp 10) (.const (.int .i64 100)), none⟩,
 ⟨some 12, .mov (.tmp 11), none⟩,
 ⟨some 13, .mov (.tmp 4), some (12, false)⟩,
 ⟨some 14, .bin .gtr .int (.tmp 13) (.const (.int .i64 12)), some (12, false)⟩,
 ⟨some 15, .pick (.tmp 12) (.const (.bool true)) (.tmp 14), none⟩])
 (.cond (.tmp 15)
 (.seq
 (.reg [⟨some 2, .mov (.const (.int .i64 2)), none⟩])
 (.ret))
 (.skip))))
 (.seq
 (.seq
 (.reg [⟨some 16, .load true 3 (.tmp 1), none⟩,
 ⟨some 17, .call (.func 57) [(.tmp 16)], none⟩,
 ⟨some 18, .un .not (.tmp 17), none⟩])
 (.cond (.tmp 18)
 (.seq
 (.reg [⟨some 2, .mov (.const (.int .i64 3)), none⟩])
 (.ret))
 (.skip)))
 (.seq
 (.reg [⟨some 2, .mov (.const (.int .i64 0)), none⟩])
 (.ret))))
theorem fn21 : Fun Try.prog 21 19 ac21 [.tmp 2] := ⟨mixedU, Try.f21, _, Try.func21, rfl, by decide +kernel, rfl, by kernel_rfl, by kernel_rfl⟩
/- slices.ContainsFunc[[]glossator/api.TypeBinding,glossator/api.TypeBinding] -/
/- glossator/glossatorkeep2.UnifyMostGeneral$1 -/
/- glossator/glossatorkeep2.isGroundFor -/
/- glossator/types.FreeVars -/
/- glossator/glossatorkeep2.typ -/
def ac26 : AC := .seq
 (.reg [⟨some 6, .alloc 29 3 [(.int .i64 0), (.int .i64 0), (.slice none 0 0)], none⟩])
 (.seq
 (.reg [⟨some 7, .mov (.tmp 0), none⟩,
 ⟨some 8, .mov (.tmp 1), none⟩,
 ⟨some 9, .mov (.tmp 2), none⟩,
 ⟨some 10, .build [(.int .i64 0), (.int .i64 0), (.slice none 0 0)] [(0, 1), (1, 1), (2, 1)] [(0, (.tmp 7)), (1, (.tmp 8)), (2, (.tmp 9))], none⟩,
 ⟨none, .store 3 (.tmp 6) (.tmp 10), none⟩])
 (.ret))
theorem fn26 : Fun Try.prog 26 11 ac26 [.cell 6 3 true] := ⟨mixedU, Try.f26, _, Try.func26, rfl, by decide +kernel, rfl, by kernel_rfl, by kernel_rfl⟩
/- glossator/glossatorlaw2.typ -/
/- glossator/glossatorlaw2.typeVar -/
/- glossator/glossatorlaw2.intType -/
/- slices.ContainsFunc[[]glossator/api.Equation,glossator/api.Equation] -/
def ac30 : AC := .seq
 (.reg [⟨some 4, .mov (.const (.bool false)), none⟩])
 (.seq
 (.reg [⟨some 5, .mov (.tmp 0), none⟩,
 ⟨some 6, .mov (.tmp 1), none⟩,
 ⟨some 7, .call (.func 59) [(.tmp 5), (.tmp 6)], none⟩,
 ⟨some 8, .bin .geq .int (.tmp 7) (.const (.int .i64 0)), none⟩,
 ⟨some 4, .mov (.tmp 8), none⟩])
 (.ret))
theorem fn30 : Fun Try.prog 30 9 ac30 [.tmp 4] := ⟨mixedU, Try.f30, _, Try.func30, rfl, by decide +kernel, rfl, by kernel_rfl, by kernel_rfl⟩
/- glossator/unify.Unify$1 -/
def ac31 : AC := .seq
 (.reg [⟨some 1, .box 31 6 (.tmp 0), none⟩,
 ⟨some 2, .mov (.const (.bool false)), none⟩])
 (.seq
 (.reg [⟨some 3, .faddr 0 (.tmp 1), none⟩,
 ⟨some 4, .load true 3 (.tmp 3), none⟩,
 ⟨some 5, .call (.func 21) [(.tmp 4)], none⟩,
 ⟨some 6, .bin .neq .int (.tmp 5) (.const (.int .i64 0)), none⟩,
 ⟨some 7, .mov (.tmp 6), none⟩,
 ⟨some 8, .faddr 3 (.tmp 1), some (7, false)⟩,
 ⟨some 9, .load true 3 (.tmp 8), some (7, false)⟩,
 ⟨some 10, .call (.func 21) [(.tmp 9)], some (7, false)⟩,
 ⟨some 11, .bin .neq .int (.tmp 10) (.const (.int .i64 0)), some (7, false)⟩,
 ⟨some 12, .pick (.tmp 7) (.const (.bool true)) (.tmp 11), none⟩,
 ⟨some 2, .mov (.tmp 12), none⟩])
 (.ret))
theorem fn31 : Fun Try.prog 31 13 ac31 [.tmp 2] := ⟨mixedU, Try.f31, _, Try.func31, rfl, by decide +kernel, rfl, by kernel_rfl, by kernel_rfl⟩
/- glossator/unify.NewSolver -/
def ac32 : AC := .seq
 (.reg [⟨some 0, .mov (.const (.pointer none)), none⟩])
 (.seq
 (.reg [⟨some 1, .mkmap, none⟩,
 ⟨some 2, .build [(.map none), (.int .i64 0)] [(0, 1), (1, 1)] [(0, (.tmp 1))], none⟩,
 ⟨some 3, .box 60 2 (.tmp 2), none⟩,
 ⟨some 0, .mov (.tmp 3), none⟩])
 (.ret))
theorem fn32 : Fun Try.prog 32 4 ac32 [.tmp 0] := ⟨mixedU, Try.f32, _, Try.func32, rfl, by decide +kernel, rfl, by kernel_rfl, by kernel_rfl⟩
/- (*glossator/unify.Solver).Unify -/
def ac33 : AC := .seq
 (.reg [⟨some 4, .box 29 3 (.tmp 1), none⟩,
 ⟨some 5, .box 29 3 (.tmp 2), none⟩,
 ⟨some 6, .mov (.const (.bool false)), none⟩])
 (.seq
 (.reg [⟨some 7, .mov (.tmp 0), none⟩,
 ⟨some 8, .nilc (.tmp 7), none⟩,
 ⟨some 9, .faddr 1 (.tmp 8), none⟩,
 ⟨none, .store 1 (.tmp 9) (.const (.int .i64 20000)), none⟩])
 (.seq
 (.reg [⟨some 10, .mov (.tmp 0), none⟩,
 ⟨some 11, .load true 3 (.tmp 4), none⟩,
 ⟨some 12, .load true 3 (.tmp 5), none⟩,
 ⟨some 13, .call (.func 60) [(.tmp 10), (.tmp 11), (.tmp 12)], none⟩,
 ⟨some 6, .mov (.tmp 13), none⟩])
 (.ret)))
theorem fn33 : Fun Try.prog 33 14 ac33 [.tmp 6] := ⟨mixedU, Try.f33, _, Try.func33, rfl, by decide +kernel, rfl, by kernel_rfl, by kernel_rfl⟩
/- (*glossator/unify.Solver).WithinLimits -/
def ac34 : AC := .seq
 (.reg [⟨some 3, .box 29 3 (.tmp 1), none⟩,
 ⟨some 4, .mov (.const (.bool false)), none⟩])
 (.seq
 (.reg [⟨some 6, .mov (.tmp 0), none⟩,
 ⟨some 7, .load true 3 (.tmp 3), none⟩,
 ⟨some 8, .mkmap, none⟩,
 ⟨some 9, .call (.func 61) [(.tmp 6), (.tmp 7), (.tmp 8)], none⟩,
 ⟨some 5, .alloc 80 2 [(.int .i64 0), (.int .i64 0)], none⟩,
 ⟨none, .store 2 (.tmp 5) (.tmp 9), none⟩])
 (.seq
 (.reg [⟨some 10, .faddr 0 (.tmp 5), none⟩,
 ⟨some 11, .load false 1 (.tmp 10), none⟩,
 ⟨some 12, .bin .leq .int (.tmp 11) (.const (.int .i64 100)), none⟩,
 ⟨some 13, .mov (.tmp 12), none⟩,
 ⟨some 14, .faddr 1 (.tmp 5), some (13, true)⟩,
 ⟨some 15, .load false 1 (.tmp 14), some (13, true)⟩,
 ⟨some 16, .bin .leq .int (.tmp 15) (.const (.int .i64 12)), some (13, true)⟩,
 ⟨some 17, .pick (.tmp 13) (.tmp 16) (.const (.bool false)), none⟩,
 ⟨some 4, .mov (.tmp 17), none⟩])
 (.ret)))
theorem fn34 : Fun Try.prog 34 18 ac34 [.tmp 4] := ⟨mixedU, Try.f34, _, Try.func34, rfl, by decide +kernel, rfl, by kernel_rfl, by kernel_rfl⟩
/- (*glossator/unify.Solver).Resolve -/
def ac35 : AC := .seq
 (.reg [⟨some 2, .box 56 1 (.tmp 0), none⟩,
 ⟨some 3, .box 29 3 (.tmp 1), none⟩,
 ⟨some 4, .alloc 29 3 [(.int .i64 0), (.int .i64 0), (.slice none 0 0)], none⟩])
 (.seq
 (.reg [⟨some 5, .load true 3 (.tmp 3), none⟩,
 ⟨some 6, .mkfn 62 [(.tmp 2)], none⟩,
 ⟨some 7, .call (.func 51) [(.tmp 5), (.tmp 6)], none⟩,
 ⟨none, .store 3 (.tmp 4) (.tmp 7), none⟩])
 (.ret))
theorem fn35 : Fun Try.prog 35 8 ac35 [.cell 4 3 true] := ⟨mixedU, Try.f35, _, Try.func35, rfl, by decide +kernel, rfl, by kernel_rfl, by kernel_rfl⟩
/- slices.SortFunc[[]glossator/api.TypeBinding,glossator/api.TypeBinding] -/
def ac36 : AC := .seq
 (.reg [⟨some 5, .mov (.tmp 0), none⟩,
 ⟨some 6, .slen false (.tmp 5), none⟩,
 ⟨some 4, .mov (.tmp 6), none⟩])
 (.reg [⟨some 7, .mov (.tmp 0), none⟩,
 ⟨some 8, .mov (.tmp 4), none⟩,
 ⟨some 9, .mov (.tmp 4), none⟩,
 ⟨some 10, .conv .u64 (.tmp 9), none⟩,
 ⟨some 11, .call (.func 65) [(.tmp 10)], none⟩,
 ⟨some 12, .mov (.tmp 1), none⟩,
 ⟨some 13, .call (.func 64) [(.tmp 7), (.const (.int .i64 0)), (.tmp 8), (.tmp 11), (.tmp 12)], none⟩])
theorem fn36 : Fun Try.prog 36 14 ac36 [] := ⟨mixedU, Try.f36, _, Try.func36, rfl, by decide +kernel, rfl, by kernel_rfl, by kernel_rfl⟩
/- glossator/glossatorref2.TypeSize -/
/- glossator/glossatorref2.TypeWellFormed -/
/- glossator/glossatorref2.SubstituteVars -/
/- glossator/glossatorref2.addBinding -/
/- glossator/glossatorref2.ContainsInt -/
/- glossator/glossatorref2.VarsOf -/
/- glossator/glossatorref2.TypesEqual -/
def ac45_l0 : AC := .seq
 (.reg [⟨some 31, .bin .lss .int (.tmp 30) (.tmp 29), none⟩])
 (.seq
 (.cond (.tmp 31)
 (.skip)
 (.exit 0))
 (.seq
 (.block 1
 (.seq
 (.reg [⟨some 32, .mov (.tmp 30), none⟩,
 ⟨some 5, .mov (.tmp 32), none⟩])
 (.seq
 (.dreg [⟨some 33, .faddr 2 (.tmp 2), none⟩,
 ⟨some 34, .load false 1 (.tmp 33), none⟩,
 ⟨some 35, .mov (.tmp 5), none⟩,
 ⟨some 36, .iaddr 3 (.tmp 34) (.tmp 35), none⟩,
 ⟨some 37, .load true 3 (.tmp 36), none⟩,
 ⟨some 38, .faddr 2 (.tmp 3), none⟩,
 ⟨some 39, .load false 1 (.tmp 38), none⟩,
 ⟨some 40, .mov (.tmp 5), none⟩,
 ⟨some 41, .iaddr 3 (.tmp 39) (.tmp 40), none⟩,
 ⟨some 42, .load true 3 (.tmp 41), none⟩,
 ⟨some 43, .call (.func 45) [(.tmp 37), (.tmp 42)], none⟩,
 ⟨some 44, .un .not (.tmp 43), none⟩]
 [[], [0], [], [1, 2], [3], [], [5], [], [6, 7], [8], [4, 9], [10]]
 [[2], [33], [5], [34, 35], [36], [3], [38], [5], [39, 40], [41], [37, 42], [43]])
 (.cond (.tmp 44)
 (.seq
 (.reg [⟨some 4, .mov (.const (.bool false)), none⟩])
 (.ret))
 (.skip)))))
 (.reg [⟨some 45, .bin .add .int (.tmp 30) (.const (.int .i64 1)), none⟩,
 ⟨some 30, .mov (.tmp 45), none⟩])))
def ac45 : AC := .seq
 (.reg [⟨some 2, .box 29 3 (.tmp 0), none⟩,
 ⟨some 3, .box 29 3 (.tmp 1), none⟩,
 ⟨some 4, .mov (.const (.bool false)), none⟩])
 (.seq
 (.seq
 (.reg [⟨some 6, .faddr 0 (.tmp 2), none⟩,
 ⟨some 7, .load false 1 (.tmp 6), none⟩,
 ⟨some 8, .faddr 0 (.tmp 3), none⟩,
 ⟨some 9, .load false 1 (.tmp 8), none⟩,
 ⟨some 10, .bin .neq .int (.tmp 7) (.tmp 9), none⟩,
 ⟨some 11, .mov (.tmp 10), none⟩,
 ⟨some 12, .faddr 1 (.tmp 2), some (11, false)⟩,
 ⟨some 13, .load false 1 (.tmp 12), some (11, false)⟩,
 ⟨some 14, .faddr 1 (.tmp 3), some (11, false)⟩,
 ⟨some 15, .load false 1 (.tmp 14), some (11, false)⟩,
 ⟨some 16, .bin .neq .int (.tmp 13) (.tmp 15), some (11, false)⟩,
 ⟨some 17, .pick (.tmp 11) (.const (.bool true)) (.tmp 16), none⟩,
 ⟨some 18, .mov (.tmp 17), none⟩,
 ⟨some 19, .faddr 2 (.tmp 2), some (18, false)⟩,
 ⟨some 20, .load false 1 (.tmp 19), some (18, false)⟩,
 ⟨some 21, .slen false (.tmp 20), some (18, false)⟩,
 ⟨some 22, .faddr 2 (.tmp 3), some (18, false)⟩,
 ⟨some 23, .load false 1 (.tmp 22), some (18, false)⟩,
 ⟨some 24, .slen false (.tmp 23), some (18, false)⟩,
 ⟨some 25, .bin .neq .int (.tmp 21) (.tmp 24), some (18, false)⟩,
 ⟨some 26, .pick (.tmp 18) (.const (.bool true)) (.tmp 25), none⟩])
 (.cond (.tmp 26)
 (.seq
 (.reg [⟨some 4, .mov (.const (.bool false)), none⟩])
 (.ret))
 (.skip)))
 (.seq
 (.seq
 (.reg [⟨some 27, .faddr 2 (.tmp 2), none⟩,
 ⟨some 28, .load false 1 (.tmp 27), none⟩,
 ⟨some 29, .slen false (.tmp 28), none⟩,
 ⟨some 30, .mov (.const (.int .i64 0)), none⟩])
 (.block 0
 (.loop ac45_l0)))
 (.seq
 (.reg [⟨some 4, .mov (.const (.bool true)), none⟩])
 (.ret))))
theorem fn45 : Fun Try.prog 45 46 ac45 [.tmp 4] := ⟨mixedU, Try.f45, _, Try.func45, rfl, by decide +kernel, rfl, by kernel_rfl, by kernel_rfl⟩
/- glossator/glossatorkeep2.intType -/
def ac46 : AC := .seq
 (.reg [⟨some 0, .alloc 29 3 [(.int .i64 0), (.int .i64 0), (.slice none 0 0)], none⟩])
 (.seq
 (.reg [⟨some 1, .call (.func 26) [(.const (.int .i64 3)), (.const (.int .i64 0)), (.const (.slice none 0 0))], none⟩,
 ⟨none, .store 3 (.tmp 0) (.tmp 1), none⟩])
 (.ret))
theorem fn46 : Fun Try.prog 46 2 ac46 [.cell 0 3 true] := ⟨mixedU, Try.f46, _, Try.func46, rfl, by decide +kernel, rfl, by kernel_rfl, by kernel_rfl⟩
/- glossator/glossatorkeep2.anyErrorType$1 -/
def ac47 : AC := .seq
 (.reg [⟨some 1, .box 31 6 (.tmp 0), none⟩,
 ⟨some 2, .mov (.const (.bool false)), none⟩])
 (.seq
 (.reg [⟨some 3, .faddr 0 (.tmp 1), none⟩,
 ⟨some 4, .load true 3 (.tmp 3), none⟩,
 ⟨some 5, .call (.func 48) [(.tmp 4)], none⟩,
 ⟨some 6, .mov (.tmp 5), none⟩,
 ⟨some 7, .faddr 3 (.tmp 1), some (6, false)⟩,
 ⟨some 8, .load true 3 (.tmp 7), some (6, false)⟩,
 ⟨some 9, .call (.func 48) [(.tmp 8)], some (6, false)⟩,
 ⟨some 10, .pick (.tmp 6) (.const (.bool true)) (.tmp 9), none⟩,
 ⟨some 2, .mov (.tmp 10), none⟩])
 (.ret))
theorem fn47 : Fun Try.prog 47 11 ac47 [.tmp 2] := ⟨mixedU, Try.f47, _, Try.func47, rfl, by decide +kernel, rfl, by kernel_rfl, by kernel_rfl⟩
/- glossator/glossatorkeep2.containsErrorType -/
def ac48 : AC := .seq
 (.reg [⟨some 1, .box 29 3 (.tmp 0), none⟩,
 ⟨some 2, .mov (.const (.bool false)), none⟩])
 (.seq
 (.reg [⟨some 3, .faddr 0 (.tmp 1), none⟩,
 ⟨some 4, .load false 1 (.tmp 3), none⟩,
 ⟨some 5, .bin .eql .int (.tmp 4) (.const (.int .i64 0)), none⟩,
 ⟨some 6, .mov (.tmp 5), none⟩,
 ⟨some 7, .faddr 2 (.tmp 1), some (6, false)⟩,
 ⟨some 8, .load false 1 (.tmp 7), some (6, false)⟩,
 ⟨some 9, .call (.func 68) [(.tmp 8), (.func 48)], some (6, false)⟩,
 ⟨some 10, .pick (.tmp 6) (.const (.bool true)) (.tmp 9), none⟩,
 ⟨some 2, .mov (.tmp 10), none⟩])
 (.ret))
theorem fn48 : Fun Try.prog 48 11 ac48 [.tmp 2] := ⟨mixedU, Try.f48, _, Try.func48, rfl, by decide +kernel, rfl, by kernel_rfl, by kernel_rfl⟩
/- slices.EqualFunc[[]glossator/api.Type,[]glossator/api.Type,glossator/api.Type,glossator/api.Type] -/
/- glossator/types.Map -/
def ac51_l0 : AC := .seq
 (.reg [⟨some 27, .bin .lss .int (.tmp 26) (.tmp 25), none⟩])
 (.seq
 (.cond (.tmp 27)
 (.skip)
 (.exit 0))
 (.seq
 (.block 1
 (.seq
 (.reg [⟨some 28, .iaddr 3 (.tmp 24) (.tmp 26), none⟩,
 ⟨some 29, .load true 3 (.tmp 28), none⟩,
 ⟨some 9, .alloc 29 3 [(.int .i64 0), (.int .i64 0), (.slice none 0 0)], none⟩,
 ⟨none, .store 3 (.tmp 9) (.tmp 29), none⟩])
 (.dreg [⟨some 30, .faddr 2 (.tmp 7), none⟩,
 ⟨some 31, .load false 1 (.tmp 30), none⟩,
 ⟨some 32, .load true 3 (.tmp 9), none⟩,
 ⟨some 33, .mov (.tmp 1), none⟩,
 ⟨some 34, .call (.func 51) [(.tmp 32), (.tmp 33)], none⟩,
 ⟨some 35, .bslice 29 3 [(.int .i64 0), (.int .i64 0), (.slice none 0 0)] 1 [(0, (.tmp 34))], none⟩,
 ⟨some 36, .app 29 3 (.tmp 31) (.tmp 35), none⟩,
 ⟨some 37, .faddr 2 (.tmp 7), none⟩,
 ⟨none, .store 1 (.tmp 37) (.tmp 36), none⟩]
 [[], [0], [], [], [2, 3], [4], [1, 5, 4], [0, 1, 2, 3, 4, 5, 6], [7, 6, 6, 0, 1, 2, 3, 4, 5, 6]]
 [[7], [30], [9], [1], [32, 33], [34], [31, 35], [7], [37, 36]])))
 (.reg [⟨some 38, .bin .add .int (.tmp 26) (.const (.int .i64 1)), none⟩,
 ⟨some 26, .mov (.tmp 38), none⟩])))
def ac51 : AC := .seq
 (.reg [⟨some 2, .box 29 3 (.tmp 0), none⟩,
 ⟨some 4, .alloc 29 3 [(.int .i64 0), (.int .i64 0), (.slice none 0 0)], none⟩])
 (.seq
 (.seq
 (.reg [⟨some 11, .mov (.tmp 1), none⟩,
 ⟨some 12, .load true 3 (.tmp 2), none⟩,
 ⟨some 13, .call (.tmp 11) [(.tmp 12)], none⟩,
 ⟨some 10, .mov (.tmp 13), none⟩,
 ⟨some 14, .ext (.tmp 10) 0, none⟩,
 ⟨some 15, .ext (.tmp 10) 1, none⟩,
 ⟨some 5, .alloc 29 3 [(.int .i64 0), (.int .i64 0), (.slice none 0 0)], none⟩,
 ⟨none, .store 3 (.tmp 5) (.tmp 14), none⟩,
 ⟨some 6, .mov (.tmp 15), none⟩])
 (.seq
 (.reg [⟨some 16, .mov (.tmp 6), none⟩])
 (.cond (.tmp 16)
 (.seq
 (.reg [⟨some 17, .load true 3 (.tmp 5), none⟩,
 ⟨none, .store 3 (.tmp 4) (.tmp 17), none⟩])
 (.ret))
 (.skip))))
 (.seq
 (.reg [⟨some 18, .faddr 0 (.tmp 2), none⟩,
 ⟨some 19, .load false 1 (.tmp 18), none⟩,
 ⟨some 20, .faddr 1 (.tmp 2), none⟩,
 ⟨some 21, .load false 1 (.tmp 20), none⟩,
 ⟨some 22, .build [(.int .i64 0), (.int .i64 0), (.slice none 0 0)] [(0, 1), (1, 1), (2, 1)] [(0, (.tmp 19)), (1, (.tmp 21))], none⟩,
 ⟨some 7, .alloc 29 3 [(.int .i64 0), (.int .i64 0), (.slice none 0 0)], none⟩,
 ⟨none, .store 3 (.tmp 7) (.tmp 22), none⟩])
 (.seq
 (.seq
 (.reg [⟨some 23, .faddr 2 (.tmp 2), none⟩,
 ⟨some 24, .load false 1 (.tmp 23), none⟩,
 ⟨some 25, .slen false (.tmp 24), none⟩,
 ⟨some 26, .mov (.const (.int .i64 0)), none⟩])
 (.block 0
 (.loop ac51_l0)))
 (.seq
 (.reg [⟨some 39, .load true 3 (.tmp 7), none⟩,
 ⟨none, .store 3 (.tmp 4) (.tmp 39), none⟩])
 (.ret)))))
theorem fn51 : Fun Try.prog 51 40 ac51 [.cell 4 3 true] := ⟨mixedU, Try.f51, _, Try.func51, rfl, by decide +kernel, rfl, by kernel_rfl, by kernel_rfl⟩
/- glossator/types.Substitute$1 -/
/- slices.IndexFunc[[]glossator/api.TypeBinding,glossator/api.TypeBinding] -/
/- glossator/types.Substitute$1$1 -/
/- glossator/types.Clone -/
/- glossator/types.measure -/
def ac56_l0 : AC := .seq
 (.reg [⟨some 14, .bin .lss .int (.tmp 13) (.tmp 12), none⟩])
 (.seq
 (.cond (.tmp 14)
 (.skip)
 (.exit 0))
 (.seq
 (.block 1
 (.seq
 (.reg [⟨some 15, .iaddr 3 (.tmp 11) (.tmp 13), none⟩,
 ⟨some 16, .load true 3 (.tmp 15), none⟩,
 ⟨some 7, .alloc 29 3 [(.int .i64 0), (.int .i64 0), (.slice none 0 0)], none⟩,
 ⟨none, .store 3 (.tmp 7) (.tmp 16), none⟩])
 (.seq
 (.seq
 (.reg [⟨some 17, .mov (.tmp 4), none⟩,
 ⟨some 18, .mov (.tmp 1), none⟩,
 ⟨some 19, .bin .gtr .int (.tmp 17) (.tmp 18), none⟩])
 (.cond (.tmp 19)
 (.exit 0)
 (.skip)))
 (.seq
 (.reg [⟨some 21, .load true 3 (.tmp 7), none⟩,
 ⟨some 22, .mov (.tmp 1), none⟩,
 ⟨some 23, .mov (.tmp 4), none⟩,
 ⟨some 24, .bin .sub .int (.tmp 22) (.tmp 23), none⟩,
 ⟨some 25, .call (.func 56) [(.tmp 21), (.tmp 24)], none⟩,
 ⟨some 20, .mov (.tmp 25), none⟩,
 ⟨some 26, .ext (.tmp 20) 0, none⟩,
 ⟨some 27, .ext (.tmp 20) 1, none⟩,
 ⟨some 8, .mov (.tmp 26), none⟩,
 ⟨some 9, .mov (.tmp 27), none⟩])
 (.reg [⟨some 28, .mov (.tmp 4), none⟩,
 ⟨some 29, .mov (.tmp 8), none⟩,
 ⟨some 30, .bin .add .int (.tmp 28) (.tmp 29), none⟩,
 ⟨some 31, .mov (.tmp 5), none⟩,
 ⟨some 32, .mov (.tmp 9), none⟩,
 ⟨some 33, .minmax false (.tmp 31) (.tmp 32), none⟩,
 ⟨some 4, .mov (.tmp 30), none⟩,
 ⟨some 5, .mov (.tmp 33), none⟩])))))
 (.reg [⟨some 34, .bin .add .int (.tmp 13) (.const (.int .i64 1)), none⟩,
 ⟨some 13, .mov (.tmp 34), none⟩])))
def ac56 : AC := .seq
 (.reg [⟨some 2, .box 29 3 (.tmp 0), none⟩,
 ⟨some 4, .mov (.const (.int .i64 0)), none⟩,
 ⟨some 5, .mov (.const (.int .i64 0)), none⟩])
 (.seq
 (.reg [⟨some 4, .mov (.const (.int .i64 1)), none⟩])
 (.seq
 (.seq
 (.reg [⟨some 10, .faddr 2 (.tmp 2), none⟩,
 ⟨some 11, .load false 1 (.tmp 10), none⟩,
 ⟨some 12, .slen false (.tmp 11), none⟩,
 ⟨some 13, .mov (.const (.int .i64 0)), none⟩])
 (.block 0
 (.loop ac56_l0)))
 (.seq
 (.reg [⟨some 35, .mov (.tmp 4), none⟩,
 ⟨some 36, .mov (.tmp 5), none⟩,
 ⟨some 37, .bin .add .int (.tmp 36) (.const (.int .i64 1)), none⟩,
 ⟨some 4, .mov (.tmp 35), none⟩,
 ⟨some 5, .mov (.tmp 37), none⟩])
 (.ret))))
theorem fn56 : Fun Try.prog 56 38 ac56 [.tmp 4, .tmp 5] := ⟨mixedU, Try.f56, _, Try.func56, rfl, by decide +kernel, rfl, by kernel_rfl, by kernel_rfl⟩
/- glossator/types.wellFormed -/
def ac57 : AC := .seq
 (.reg [⟨some 1, .box 29 3 (.tmp 0), none⟩,
 ⟨some 2, .mov (.const (.bool false)), none⟩])
 (.seq
 (.reg [⟨some 3, .load true 3 (.tmp 1), none⟩,
 ⟨some 4, .call (.func 70) [(.tmp 3)], none⟩,
 ⟨some 5, .mov (.tmp 4), none⟩,
 ⟨some 6, .faddr 2 (.tmp 1), some (5, true)⟩,
 ⟨some 7, .load false 1 (.tmp 6), some (5, true)⟩,
 ⟨some 8, .call (.func 68) [(.tmp 7), (.func 71)], some (5, true)⟩,
 ⟨some 9, .un .not (.tmp 8), some (5, true)⟩,
 ⟨some 10, .pick (.tmp 5) (.tmp 9) (.const (.bool false)), none⟩,
 ⟨some 2, .mov (.tmp 10), none⟩])
 (.ret))
theorem fn57 : Fun Try.prog 57 11 ac57 [.tmp 2] := ⟨mixedU, Try.f57, _, Try.func57, rfl, by decide +kernel, rfl, by kernel_rfl, by kernel_rfl⟩
/- glossator/types.appendFreeVars -/
/- slices.IndexFunc[[]glossator/api.Equation,glossator/api.Equation] -/
def ac59_l0 : AC := .seq
 (.reg [⟨some 9, .bin .lss .int (.tmp 8) (.tmp 7), none⟩])
 (.seq
 (.cond (.tmp 9)
 (.skip)
 (.exit 0))
 (.seq
 (.block 1
 (.seq
 (.reg [⟨some 10, .mov (.tmp 8), none⟩,
 ⟨some 5, .mov (.tmp 10), none⟩])
 (.seq
 (.reg [⟨some 11, .mov (.tmp 1), none⟩,
 ⟨some 12, .mov (.tmp 0), none⟩,
 ⟨some 13, .mov (.tmp 5), none⟩,
 ⟨some 14, .iaddr 6 (.tmp 12) (.tmp 13), none⟩,
 ⟨some 15, .load true 6 (.tmp 14), none⟩,
 ⟨some 16, .call (.tmp 11) [(.tmp 15)], none⟩])
 (.cond (.tmp 16)
 (.seq
 (.reg [⟨some 17, .mov (.tmp 5), none⟩,
 ⟨some 4, .mov (.tmp 17), none⟩])
 (.ret))
 (.skip)))))
 (.reg [⟨some 18, .bin .add .int (.tmp 8) (.const (.int .i64 1)), none⟩,
 ⟨some 8, .mov (.tmp 18), none⟩])))
def ac59 : AC := .seq
 (.reg [⟨some 4, .mov (.const (.int .i64 0)), none⟩])
 (.seq
 (.seq
 (.reg [⟨some 6, .mov (.tmp 0), none⟩,
 ⟨some 7, .slen false (.tmp 6), none⟩,
 ⟨some 8, .mov (.const (.int .i64 0)), none⟩])
 (.block 0
 (.loop ac59_l0)))
 (.seq
 (.reg [⟨some 4, .mov (.const (.int .i64 (-1))), none⟩])
 (.ret)))
theorem fn59 : Fun Try.prog 59 19 ac59 [.tmp 4] := ⟨mixedU, Try.f59, _, Try.func59, rfl, by decide +kernel, rfl, by kernel_rfl, by kernel_rfl⟩
/- (*glossator/unify.Solver).unify -/
def ac60_l0 : AC := .seq
 (.reg [⟨some 109, .bin .lss .int (.tmp 108) (.tmp 107), none⟩])
 (.seq
 (.cond (.tmp 109)
 (.skip)
 (.exit 1))
 (.seq
 (.block 2
 (.seq
 (.reg [⟨some 110, .mov (.tmp 108), none⟩,
 ⟨some 7, .mov (.tmp 110), none⟩])
 (.seq
 (.dreg [⟨some 111, .mov (.tmp 0), none⟩,
 ⟨some 112, .faddr 2 (.tmp 4), none⟩,
 ⟨some 113, .load false 1 (.tmp 112), none⟩,
 ⟨some 114, .mov (.tmp 7), none⟩,
 ⟨some 115, .iaddr 3 (.tmp 113) (.tmp 114), none⟩,
 ⟨some 116, .load true 3 (.tmp 115), none⟩,
 ⟨some 117, .faddr 2 (.tmp 5), none⟩,
 ⟨some 118, .load false 1 (.tmp 117), none⟩,
 ⟨some 119, .mov (.tmp 7), none⟩,
 ⟨some 120, .iaddr 3 (.tmp 118) (.tmp 119), none⟩,
 ⟨some 121, .load true 3 (.tmp 120), none⟩,
 ⟨some 122, .call (.func 60) [(.tmp 111), (.tmp 116), (.tmp 121)], none⟩,
 ⟨some 123, .un .not (.tmp 122), none⟩]
 [[], [], [1], [], [2, 3], [4], [], [6], [], [7, 8], [9], [0, 5, 10], [11]]
 [[0], [4], [112], [7], [113, 114], [115], [5], [117], [7], [118, 119], [120], [111, 116, 121], [122]])
 (.cond (.tmp 123)
 (.seq
 (.reg [⟨some 6, .mov (.const (.bool false)), none⟩])
 (.ret))
 (.skip)))))
 (.reg [⟨some 124, .bin .add .int (.tmp 108) (.const (.int .i64 1)), none⟩,
 ⟨some 108, .mov (.tmp 124), none⟩])))
def ac60 : AC := .seq
 (.reg [⟨some 4, .box 29 3 (.tmp 1), none⟩,
 ⟨some 5, .box 29 3 (.tmp 2), none⟩,
 ⟨some 6, .mov (.const (.bool false)), none⟩])
 (.seq
 (.dreg [⟨some 8, .mov (.tmp 0), none⟩,
 ⟨some 9, .load true 3 (.tmp 4), none⟩,
 ⟨some 10, .call (.func 63) [(.tmp 8), (.tmp 9)], none⟩,
 ⟨some 11, .mov (.tmp 0), none⟩,
 ⟨some 12, .load true 3 (.tmp 5), none⟩,
 ⟨some 13, .call (.func 63) [(.tmp 11), (.tmp 12)], none⟩,
 ⟨none, .store 3 (.tmp 4) (.tmp 10), none⟩,
 ⟨none, .store 3 (.tmp 5) (.tmp 13), none⟩]
 [[], [], [0, 1], [], [], [3, 4, 2], [2, 5, 0, 1, 2], [5, 6, 0, 1, 2, 3, 4, 5, 6]]
 [[0], [4], [8, 9], [0], [5], [11, 12], [4, 10], [5, 13]])
 (.seq
 (.reg [⟨some 14, .mov (.tmp 0), none⟩,
 ⟨some 15, .nilc (.tmp 14), none⟩,
 ⟨some 16, .faddr 1 (.tmp 15), none⟩,
 ⟨some 17, .load false 1 (.tmp 16), none⟩,
 ⟨some 18, .bin .sub .int (.tmp 17) (.const (.int .i64 1)), none⟩,
 ⟨some 19, .nilc (.tmp 14), none⟩,
 ⟨some 20, .faddr 1 (.tmp 19), none⟩,
 ⟨none, .store 1 (.tmp 20) (.tmp 18), none⟩])
 (.seq
 (.block 0
 (.seq
 (.reg [⟨some 22, .mov (.tmp 0), none⟩,
 ⟨some 23, .nilc (.tmp 22), none⟩,
 ⟨some 24, .faddr 1 (.tmp 23), none⟩,
 ⟨some 25, .load false 1 (.tmp 24), none⟩,
 ⟨some 26, .bin .lss .int (.tmp 25) (.const (.int .i64 0)), none⟩,
 ⟨some 21, .mov (.tmp 26), none⟩])
 (.cond (.tmp 21)
 (.seq
 (.reg [⟨some 6, .mov (.const (.bool false)), none⟩])
 (.ret))
 (.seq
 (.reg [⟨some 28, .faddr 0 (.tmp 4), none⟩,
 ⟨some 29, .load false 1 (.tmp 28), none⟩,
 ⟨some 30, .bin .eql .int (.tmp 29) (.const (.int .i64 0)), none⟩,
 ⟨some 31, .mov (.tmp 30), none⟩,
 ⟨some 32, .faddr 0 (.tmp 5), some (31, false)⟩,
 ⟨some 33, .load false 1 (.tmp 32), some (31, false)⟩,
 ⟨some 34, .bin .eql .int (.tmp 33) (.const (.int .i64 0)), some (31, false)⟩,
 ⟨some 35, .pick (.tmp 31) (.const (.bool true)) (.tmp 34), none⟩,
 ⟨some 27, .mov (.tmp 35), none⟩])
 (.cond (.tmp 27)
 (.seq
 (.reg [⟨some 6, .mov (.const (.bool true)), none⟩])
 (.ret))
 (.seq
 (.reg [⟨some 37, .faddr 0 (.tmp 4), none⟩,
 ⟨some 38, .load false 1 (.tmp 37), none⟩,
 ⟨some 39, .bin .eql .int (.tmp 38) (.const (.int .i64 1)), none⟩,
 ⟨some 40, .mov (.tmp 39), none⟩,
 ⟨some 41, .faddr 0 (.tmp 5), some (40, true)⟩,
 ⟨some 42, .load false 1 (.tmp 41), some (40, true)⟩,
 ⟨some 43, .bin .eql .int (.tmp 42) (.const (.int .i64 1)), some (40, true)⟩,
 ⟨some 44, .pick (.tmp 40) (.tmp 43) (.const (.bool false)), none⟩,
 ⟨some 36, .mov (.tmp 44), none⟩])
 (.cond (.tmp 36)
 (.seq
 (.seq
 (.reg [⟨some 45, .faddr 1 (.tmp 4), none⟩,
 ⟨some 46, .load false 1 (.tmp 45), none⟩,
 ⟨some 47, .faddr 1 (.tmp 5), none⟩,
 ⟨some 48, .load false 1 (.tmp 47), none⟩,
 ⟨some 49, .bin .neq .int (.tmp 46) (.tmp 48), none⟩])
 (.cond (.tmp 49)
 (.dreg [⟨some 50, .mov (.tmp 0), none⟩,
 ⟨some 51, .nilc (.tmp 50), none⟩,
 ⟨some 52, .faddr 0 (.tmp 51), none⟩,
 ⟨some 53, .load false 1 (.tmp 52), none⟩,
 ⟨some 54, .faddr 1 (.tmp 4), none⟩,
 ⟨some 55, .load false 1 (.tmp 54), none⟩,
 ⟨some 56, .faddr 1 (.tmp 5), none⟩,
 ⟨some 57, .load false 1 (.tmp 56), none⟩,
 ⟨some 58, .minmax false (.tmp 55) (.tmp 57), none⟩,
 ⟨some 59, .faddr 1 (.tmp 4), none⟩,
 ⟨some 60, .load false 1 (.tmp 59), none⟩,
 ⟨some 61, .faddr 1 (.tmp 5), none⟩,
 ⟨some 62, .load false 1 (.tmp 61), none⟩,
 ⟨some 63, .minmax true (.tmp 60) (.tmp 62), none⟩,
 ⟨some 64, .build [(.int .i64 0), (.int .i64 0), (.slice none 0 0)] [(0, 1), (1, 1), (2, 1)] [(0, (.const (.int .i64 1))), (1, (.tmp 63))], none⟩,
 ⟨none, .mupd (.tmp 53) (.tmp 58) (.tmp 64), none⟩]
 [[], [0], [1], [2], [], [4], [], [6], [5, 7], [], [9], [], [11], [10, 12], [13], [3, 8, 14, 0, 1, 2, 3, 4, 5, 6, 7, 8, 9, 10, 11, 12, 13, 14]]
 [[0], [50], [51], [52], [4], [54], [5], [56], [55, 57], [4], [59], [5], [61], [60, 62], [63], [53, 58, 64]])
 (.skip)))
 (.seq
 (.reg [⟨some 6, .mov (.const (.bool true)), none⟩])
 (.ret)))
 (.seq
 (.reg [⟨some 66, .faddr 0 (.tmp 4), none⟩,
 ⟨some 67, .load false 1 (.tmp 66), none⟩,
 ⟨some 68, .bin .eql .int (.tmp 67) (.const (.int .i64 1)), none⟩,
 ⟨some 65, .mov (.tmp 68), none⟩])
 (.cond (.tmp 65)
 (.seq
 (.reg [⟨some 69, .mov (.tmp 0), none⟩,
 ⟨some 70, .faddr 1 (.tmp 4), none⟩,
 ⟨some 71, .load false 1 (.tmp 70), none⟩,
 ⟨some 72, .load true 3 (.tmp 5), none⟩,
 ⟨some 73, .call (.func 73) [(.tmp 69), (.tmp 71), (.tmp 72)], none⟩,
 ⟨some 6, .mov (.tmp 73), none⟩])
 (.ret))
 (.seq
 (.reg [⟨some 75, .faddr 0 (.tmp 5), none⟩,
 ⟨some 76, .load false 1 (.tmp 75), none⟩,
 ⟨some 77, .bin .eql .int (.tmp 76) (.const (.int .i64 1)), none⟩,
 ⟨some 74, .mov (.tmp 77), none⟩])
 (.cond (.tmp 74)
 (.seq
 (.reg [⟨some 78, .mov (.tmp 0), none⟩,
 ⟨some 79, .faddr 1 (.tmp 5), none⟩,
 ⟨some 80, .load false 1 (.tmp 79), none⟩,
 ⟨some 81, .load true 3 (.tmp 4), none⟩,
 ⟨some 82, .call (.func 73) [(.tmp 78), (.tmp 80), (.tmp 81)], none⟩,
 ⟨some 6, .mov (.tmp 82), none⟩])
 (.ret))
 (.seq
 (.reg [⟨some 84, .faddr 0 (.tmp 4), none⟩,
 ⟨some 85, .load false 1 (.tmp 84), none⟩,
 ⟨some 86, .faddr 0 (.tmp 5), none⟩,
 ⟨some 87, .load false 1 (.tmp 86), none⟩,
 ⟨some 88, .bin .neq .int (.tmp 85) (.tmp 87), none⟩,
 ⟨some 89, .mov (.tmp 88), none⟩,
 ⟨some 90, .faddr 1 (.tmp 4), some (89, false)⟩,
 ⟨some 91, .load false 1 (.tmp 90), some (89, false)⟩,
 ⟨some 92, .faddr 1 (.tmp 5), some (89, false)⟩,
 ⟨some 93, .load false 1 (.tmp 92), some (89, false)⟩,
 ⟨some 94, .bin .neq .int (.tmp 91) (.tmp 93), some (89, false)⟩,
 ⟨some 95, .pick (.tmp 89) (.const (.bool true)) (.tmp 94), none⟩,
 ⟨some 96, .mov (.tmp 95), none⟩,
 ⟨some 97, .faddr 2 (.tmp 4), some (96, false)⟩,
 ⟨some 98, .load false 1 (.tmp 97), some (96, false)⟩,
 ⟨some 99, .slen false (.tmp 98), some (96, false)⟩,
 ⟨some 100, .faddr 2 (.tmp 5), some (96, false)⟩,
 ⟨some 101, .load false 1 (.tmp 100), some (96, false)⟩,
 ⟨some 102, .slen false (.tmp 101), some (96, false)⟩,
 ⟨some 103, .bin .neq .int (.tmp 99) (.tmp 102), some (96, false)⟩,
 ⟨some 104, .pick (.tmp 96) (.const (.bool true)) (.tmp 103), none⟩,
 ⟨some 83, .mov (.tmp 104), none⟩])
 (.cond (.tmp 83)
 (.seq
 (.reg [⟨some 6, .mov (.const (.bool false)), none⟩])
 (.ret))
 (.skip))))))))))))))
 (.seq
 (.seq
 (.reg [⟨some 105, .faddr 2 (.tmp 4), none⟩,
 ⟨some 106, .load false 1 (.tmp 105), none⟩,
 ⟨some 107, .slen false (.tmp 106), none⟩,
 ⟨some 108, .mov (.const (.int .i64 0)), none⟩])
 (.block 1
 (.loop ac60_l0)))
 (.seq
 (.reg [⟨some 6, .mov (.const (.bool true)), none⟩])
 (.ret))))))
theorem fn60 : Fun Try.prog 60 125 ac60 [.tmp 6] := ⟨mixedU, Try.f60, _, Try.func60, rfl, by decide +kernel, rfl, by kernel_rfl, by kernel_rfl⟩
/- (*glossator/unify.Solver).extent -/
def ac61_l0 : AC := .seq
 (.reg [⟨some 55, .bin .lss .int (.tmp 54) (.tmp 53), none⟩])
 (.seq
 (.cond (.tmp 55)
 (.skip)
 (.exit 0))
 (.seq
 (.block 1
 (.seq
 (.reg [⟨some 56, .iaddr 3 (.tmp 52) (.tmp 54), none⟩,
 ⟨some 57, .load true 3 (.tmp 56), none⟩,
 ⟨some 14, .alloc 29 3 [(.int .i64 0), (.int .i64 0), (.slice none 0 0)], none⟩,
 ⟨none, .store 3 (.tmp 14) (.tmp 57), none⟩])
 (.seq
 (.reg [⟨some 58, .mov (.tmp 0), none⟩,
 ⟨some 59, .load true 3 (.tmp 14), none⟩,
 ⟨some 60, .mov (.tmp 2), none⟩,
 ⟨some 61, .call (.func 61) [(.tmp 58), (.tmp 59), (.tmp 60)], none⟩,
 ⟨some 15, .alloc 80 2 [(.int .i64 0), (.int .i64 0)], none⟩,
 ⟨none, .store 2 (.tmp 15) (.tmp 61), none⟩])
 (.reg [⟨some 62, .faddr 0 (.tmp 12), none⟩,
 ⟨some 63, .load false 1 (.tmp 62), none⟩,
 ⟨some 64, .faddr 0 (.tmp 15), none⟩,
 ⟨some 65, .load false 1 (.tmp 64), none⟩,
 ⟨some 66, .bin .add .int (.tmp 63) (.tmp 65), none⟩,
 ⟨some 67, .minmax true (.tmp 66) (.const (.int .i64 200)), none⟩,
 ⟨some 68, .faddr 1 (.tmp 12), none⟩,
 ⟨some 69, .load false 1 (.tmp 68), none⟩,
 ⟨some 70, .faddr 1 (.tmp 15), none⟩,
 ⟨some 71, .load false 1 (.tmp 70), none⟩,
 ⟨some 72, .minmax false (.tmp 69) (.tmp 71), none⟩,
 ⟨some 73, .build [(.int .i64 0), (.int .i64 0)] [(0, 1), (1, 1)] [(0, (.tmp 67)), (1, (.tmp 72))], none⟩,
 ⟨none, .store 2 (.tmp 12) (.tmp 73), none⟩]))))
 (.reg [⟨some 74, .bin .add .int (.tmp 54) (.const (.int .i64 1)), none⟩,
 ⟨some 54, .mov (.tmp 74), none⟩])))
def ac61 : AC := .seq
 (.reg [⟨some 4, .box 29 3 (.tmp 1), none⟩,
 ⟨some 6, .alloc 80 2 [(.int .i64 0), (.int .i64 0)], none⟩])
 (.seq
 (.seq
 (.reg [⟨some 16, .faddr 0 (.tmp 4), none⟩,
 ⟨some 17, .load false 1 (.tmp 16), none⟩,
 ⟨some 18, .bin .eql .int (.tmp 17) (.const (.int .i64 1)), none⟩])
 (.cond (.tmp 18)
 (.seq
 (.seq
 (.reg [⟨some 20, .mov (.tmp 2), none⟩,
 ⟨some 21, .faddr 1 (.tmp 4), none⟩,
 ⟨some 22, .load false 1 (.tmp 21), none⟩,
 ⟨some 23, .lookup true [(.int .i64 0), (.int .i64 0)] true (.tmp 20) (.tmp 22), none⟩,
 ⟨some 19, .mov (.tmp 23), none⟩,
 ⟨some 24, .ext (.tmp 19) 0, none⟩,
 ⟨some 25, .ext (.tmp 19) 1, none⟩,
 ⟨some 7, .alloc 80 2 [(.int .i64 0), (.int .i64 0)], none⟩,
 ⟨none, .store 2 (.tmp 7) (.tmp 24), none⟩,
 ⟨some 8, .mov (.tmp 25), none⟩])
 (.seq
 (.reg [⟨some 26, .mov (.tmp 8), none⟩])
 (.cond (.tmp 26)
 (.seq
 (.reg [⟨some 27, .load true 2 (.tmp 7), none⟩,
 ⟨none, .store 2 (.tmp 6) (.tmp 27), none⟩])
 (.ret))
 (.skip))))
 (.seq
 (.dreg [⟨some 29, .mov (.tmp 0), none⟩,
 ⟨some 30, .nilc (.tmp 29), none⟩,
 ⟨some 31, .faddr 0 (.tmp 30), none⟩,
 ⟨some 32, .load false 1 (.tmp 31), none⟩,
 ⟨some 33, .faddr 1 (.tmp 4), none⟩,
 ⟨some 34, .load false 1 (.tmp 33), none⟩,
 ⟨some 35, .lookup true [(.int .i64 0), (.int .i64 0), (.slice none 0 0)] true (.tmp 32) (.tmp 34), none⟩,
 ⟨some 28, .mov (.tmp 35), none⟩,
 ⟨some 36, .ext (.tmp 28) 0, none⟩,
 ⟨some 37, .ext (.tmp 28) 1, none⟩,
 ⟨some 9, .alloc 29 3 [(.int .i64 0), (.int .i64 0), (.slice none 0 0)], none⟩,
 ⟨none, .store 3 (.tmp 9) (.tmp 36), none⟩,
 ⟨some 10, .mov (.tmp 37), none⟩]
 [[], [0], [1], [2], [], [4], [3, 5], [6], [7], [7], [], [10, 8, 0, 1, 2, 3, 4, 5, 6, 7, 8, 10], [9, 11, 0, 1, 2, 3, 4, 5, 6, 7, 8, 9, 10, 11]]
 [[0], [29], [30], [31], [4], [33], [32, 34], [35], [28], [28], [], [9, 36], [37]])
 (.seq
 (.seq
 (.reg [⟨some 38, .mov (.tmp 10), none⟩,
 ⟨some 39, .un .not (.tmp 38), none⟩])
 (.cond (.tmp 39)
 (.seq
 (.reg [⟨some 40, .build [(.int .i64 0), (.int .i64 0)] [(0, 1), (1, 1)] [(0, (.const (.int .i64 1))), (1, (.const (.int .i64 1)))], none⟩,
 ⟨none, .store 2 (.tmp 6) (.tmp 40), none⟩])
 (.ret))
 (.skip)))
 (.seq
 (.reg [⟨some 41, .mov (.tmp 0), none⟩,
 ⟨some 42, .load true 3 (.tmp 9), none⟩,
 ⟨some 43, .mov (.tmp 2), none⟩,
 ⟨some 44, .call (.func 61) [(.tmp 41), (.tmp 42), (.tmp 43)], none⟩,
 ⟨some 11, .alloc 80 2 [(.int .i64 0), (.int .i64 0)], none⟩,
 ⟨none, .store 2 (.tmp 11) (.tmp 44), none⟩])
 (.seq
 (.reg [⟨some 45, .mov (.tmp 2), none⟩,
 ⟨some 46, .faddr 1 (.tmp 4), none⟩,
 ⟨some 47, .load false 1 (.tmp 46), none⟩,
 ⟨some 48, .load true 2 (.tmp 11), none⟩,
 ⟨none, .mupd (.tmp 45) (.tmp 47) (.tmp 48), none⟩])
 (.seq
 (.reg [⟨some 49, .load true 2 (.tmp 11), none⟩,
 ⟨none, .store 2 (.tmp 6) (.tmp 49), none⟩])
 (.ret)))))))
 (.skip)))
 (.seq
 (.reg [⟨some 50, .build [(.int .i64 0), (.int .i64 0)] [(0, 1), (1, 1)] [(0, (.const (.int .i64 1))), (1, (.const (.int .i64 0)))], none⟩,
 ⟨some 12, .alloc 80 2 [(.int .i64 0), (.int .i64 0)], none⟩,
 ⟨none, .store 2 (.tmp 12) (.tmp 50), none⟩])
 (.seq
 (.seq
 (.reg [⟨some 51, .faddr 2 (.tmp 4), none⟩,
 ⟨some 52, .load false 1 (.tmp 51), none⟩,
 ⟨some 53, .slen false (.tmp 52), none⟩,
 ⟨some 54, .mov (.const (.int .i64 0)), none⟩])
 (.block 0
 (.loop ac61_l0)))
 (.seq
 (.reg [⟨some 75, .faddr 1 (.tmp 12), none⟩,
 ⟨some 76, .load false 1 (.tmp 75), none⟩,
 ⟨some 77, .bin .add .int (.tmp 76) (.const (.int .i64 1)), none⟩,
 ⟨some 78, .faddr 1 (.tmp 12), none⟩,
 ⟨none, .store 1 (.tmp 78) (.tmp 77), none⟩])
 (.seq
 (.reg [⟨some 79, .load true 2 (.tmp 12), none⟩,
 ⟨none, .store 2 (.tmp 6) (.tmp 79), none⟩])
 (.ret))))))
theorem fn61 : Fun Try.prog 61 80 ac61 [.cell 6 2 true] := ⟨mixedU, Try.f61, _, Try.func61, rfl, by decide +kernel, rfl, by kernel_rfl, by kernel_rfl⟩
/- (*glossator/unify.Solver).Resolve$1 -/
def ac62 : AC := .seq
 (.reg [⟨some 2, .box 29 3 (.tmp 0), none⟩,
 ⟨some 3, .alloc 29 3 [(.int .i64 0), (.int .i64 0), (.slice none 0 0)], none⟩,
 ⟨some 4, .mov (.const (.bool false)), none⟩])
 (.seq
 (.seq
 (.reg [⟨some 6, .faddr 0 (.tmp 2), none⟩,
 ⟨some 7, .load false 1 (.tmp 6), none⟩,
 ⟨some 8, .bin .neq .int (.tmp 7) (.const (.int .i64 1)), none⟩])
 (.cond (.tmp 8)
 (.seq
 (.reg [⟨some 9, .load true 3 (.tmp 2), none⟩,
 ⟨none, .store 3 (.tmp 3) (.tmp 9), none⟩,
 ⟨some 4, .mov (.const (.bool false)), none⟩])
 (.ret))
 (.skip)))
 (.seq
 (.reg [⟨some 10, .load false 1 (.tmp 1), none⟩,
 ⟨some 11, .load true 3 (.tmp 2), none⟩,
 ⟨some 12, .call (.func 63) [(.tmp 10), (.tmp 11)], none⟩,
 ⟨some 5, .alloc 29 3 [(.int .i64 0), (.int .i64 0), (.slice none 0 0)], none⟩,
 ⟨none, .store 3 (.tmp 5) (.tmp 12), none⟩])
 (.seq
 (.seq
 (.reg [⟨some 13, .faddr 0 (.tmp 5), none⟩,
 ⟨some 14, .load false 1 (.tmp 13), none⟩,
 ⟨some 15, .bin .eql .int (.tmp 14) (.const (.int .i64 1)), none⟩])
 (.cond (.tmp 15)
 (.seq
 (.reg [⟨some 16, .load true 3 (.tmp 5), none⟩,
 ⟨none, .store 3 (.tmp 3) (.tmp 16), none⟩,
 ⟨some 4, .mov (.const (.bool true)), none⟩])
 (.ret))
 (.skip)))
 (.seq
 (.reg [⟨some 17, .load false 1 (.tmp 1), none⟩,
 ⟨some 18, .load true 3 (.tmp 5), none⟩,
 ⟨some 19, .call (.func 35) [(.tmp 17), (.tmp 18)], none⟩,
 ⟨none, .store 3 (.tmp 3) (.tmp 19), none⟩,
 ⟨some 4, .mov (.const (.bool true)), none⟩])
 (.ret)))))
theorem fn62 : Fun Try.prog 62 20 ac62 [.cell 3 3 true, .tmp 4] := ⟨mixedU, Try.f62, _, Try.func62, rfl, by decide +kernel, rfl, by kernel_rfl, by kernel_rfl⟩
/- (*glossator/unify.Solver).Head -/
def ac63_l0 : AC := .seq
 (.seq
 (.reg [⟨some 7, .faddr 0 (.tmp 3), none⟩,
 ⟨some 8, .load false 1 (.tmp 7), none⟩,
 ⟨some 9, .bin .eql .int (.tmp 8) (.const (.int .i64 1)), none⟩])
 (.cond (.tmp 9)
 (.skip)
 (.exit 0)))
 (.block 1
 (.seq
 (.dreg [⟨some 11, .mov (.tmp 0), none⟩,
 ⟨some 12, .nilc (.tmp 11), none⟩,
 ⟨some 13, .faddr 0 (.tmp 12), none⟩,
 ⟨some 14, .load false 1 (.tmp 13), none⟩,
 ⟨some 15, .faddr 1 (.tmp 3), none⟩,
 ⟨some 16, .load false 1 (.tmp 15), none⟩,
 ⟨some 17, .lookup true [(.int .i64 0), (.int .i64 0), (.slice none 0 0)] true (.tmp 14) (.tmp 16), none⟩,
 ⟨some 10, .mov (.tmp 17), none⟩,
 ⟨some 18, .ext (.tmp 10) 0, none⟩,
 ⟨some 19, .ext (.tmp 10) 1, none⟩,
 ⟨some 5, .alloc 29 3 [(.int .i64 0), (.int .i64 0), (.slice none 0 0)], none⟩,
 ⟨none, .store 3 (.tmp 5) (.tmp 18), none⟩,
 ⟨some 6, .mov (.tmp 19), none⟩]
 [[], [0], [1], [2], [], [4], [3, 5], [6], [7], [7], [], [10, 8, 0, 1, 2, 3, 4, 5, 6, 7, 8, 10], [9, 11, 0, 1, 2, 3, 4, 5, 6, 7, 8, 9, 10, 11]]
 [[0], [11], [12], [13], [3], [15], [14, 16], [17], [10], [10], [], [5, 18], [19]])
 (.seq
 (.seq
 (.reg [⟨some 20, .mov (.tmp 6), none⟩,
 ⟨some 21, .un .not (.tmp 20), none⟩])
 (.cond (.tmp 21)
 (.exit 0)
 (.skip)))
 (.reg [⟨some 22, .load true 3 (.tmp 5), none⟩,
 ⟨none, .store 3 (.tmp 3) (.tmp 22), none⟩]))))
def ac63 : AC := .seq
 (.reg [⟨some 3, .box 29 3 (.tmp 1), none⟩,
 ⟨some 4, .alloc 29 3 [(.int .i64 0), (.int .i64 0), (.slice none 0 0)], none⟩])
 (.seq
 (.block 0
 (.loop ac63_l0))
 (.seq
 (.reg [⟨some 23, .load true 3 (.tmp 3), none⟩,
 ⟨none, .store 3 (.tmp 4) (.tmp 23), none⟩])
 (.ret)))
theorem fn63 : Fun Try.prog 63 24 ac63 [.cell 4 3 true] := ⟨mixedU, Try.f63, _, Try.func63, rfl, by decide +kernel, rfl, by kernel_rfl, by kernel_rfl⟩
/- slices.pdqsortCmpFunc[glossator/api.TypeBinding] -/
def ac64_l0 : AC := .block 1
 (.seq
 (.reg [⟨some 21, .mov (.tmp 2), none⟩,
 ⟨some 22, .mov (.tmp 1), none⟩,
 ⟨some 23, .bin .sub .int (.tmp 21) (.tmp 22), none⟩,
 ⟨some 12, .mov (.tmp 23), none⟩])
 (.seq
 (.seq
 (.reg [⟨some 24, .mov (.tmp 12), none⟩,
 ⟨some 25, .bin .leq .int (.tmp 24) (.const (.int .i64 12)), none⟩])
 (.cond (.tmp 25)
 (.seq
 (.reg [⟨some 26, .mov (.tmp 0), none⟩,
 ⟨some 27, .mov (.tmp 1), none⟩,
 ⟨some 28, .mov (.tmp 2), none⟩,
 ⟨some 29, .mov (.tmp 4), none⟩,
 ⟨some 30, .call (.func 74) [(.tmp 26), (.tmp 27), (.tmp 28), (.tmp 29)], none⟩])
 (.ret))
 (.skip)))
 (.seq
 (.seq
 (.reg [⟨some 31, .mov (.tmp 3), none⟩,
 ⟨some 32, .bin .eql .int (.tmp 31) (.const (.int .i64 0)), none⟩])
 (.cond (.tmp 32)
 (.seq
 (.reg [⟨some 33, .mov (.tmp 0), none⟩,
 ⟨some 34, .mov (.tmp 1), none⟩,
 ⟨some 35, .mov (.tmp 2), none⟩,
 ⟨some 36, .mov (.tmp 4), none⟩,
 ⟨some 37, .call (.func 75) [(.tmp 33), (.tmp 34), (.tmp 35), (.tmp 36)], none⟩])
 (.ret))
 (.skip)))
 (.seq
 (.seq
 (.reg [⟨some 38, .mov (.tmp 10), none⟩,
 ⟨some 39, .un .not (.tmp 38), none⟩])
 (.cond (.tmp 39)
 (.seq
 (.reg [⟨some 40, .mov (.tmp 0), none⟩,
 ⟨some 41, .mov (.tmp 1), none⟩,
 ⟨some 42, .mov (.tmp 2), none⟩,
 ⟨some 43, .mov (.tmp 4), none⟩,
 ⟨some 44, .call (.func 76) [(.tmp 40), (.tmp 41), (.tmp 42), (.tmp 43)], none⟩])
 (.reg [⟨some 45, .mov (.tmp 3), none⟩,
 ⟨some 46, .bin .sub .int (.tmp 45) (.const (.int .i64 1)), none⟩,
 ⟨some 3, .mov (.tmp 46), none⟩]))
 (.skip)))
 (.seq
 (.reg [⟨some 48, .mov (.tmp 0), none⟩,
 ⟨some 49, .mov (.tmp 1), none⟩,
 ⟨some 50, .mov (.tmp 2), none⟩,
 ⟨some 51, .mov (.tmp 4), none⟩,
 ⟨some 52, .call (.func 77) [(.tmp 48), (.tmp 49), (.tmp 50), (.tmp 51)], none⟩,
 ⟨some 47, .mov (.tmp 52), none⟩,
 ⟨some 53, .ext (.tmp 47) 0, none⟩,
 ⟨some 54, .ext (.tmp 47) 1, none⟩,
 ⟨some 13, .mov (.tmp 53), none⟩,
 ⟨some 14, .mov (.tmp 54), none⟩])
 (.seq
 (.seq
 (.reg [⟨some 55, .mov (.tmp 14), none⟩,
 ⟨some 56, .bin .eql .int (.tmp 55) (.const (.int .i64 2)), none⟩])
 (.cond (.tmp 56)
 (.seq
 (.reg [⟨some 57, .mov (.tmp 0), none⟩,
 ⟨some 58, .mov (.tmp 1), none⟩,
 ⟨some 59, .mov (.tmp 2), none⟩,
 ⟨some 60, .mov (.tmp 4), none⟩,
 ⟨some 61, .call (.func 78) [(.tmp 57), (.tmp 58), (.tmp 59), (.tmp 60)], none⟩])
 (.seq
 (.reg [⟨some 62, .mov (.tmp 2), none⟩,
 ⟨some 63, .bin .sub .int (.tmp 62) (.const (.int .i64 1)), none⟩,
 ⟨some 64, .mov (.tmp 13), none⟩,
 ⟨some 65, .mov (.tmp 1), none⟩,
 ⟨some 66, .bin .sub .int (.tmp 64) (.tmp 65), none⟩,
 ⟨some 67, .bin .sub .int (.tmp 63) (.tmp 66), none⟩,
 ⟨some 13, .mov (.tmp 67), none⟩])
 (.reg [⟨some 14, .mov (.const (.int .i64 1)), none⟩])))
 (.skip)))
 (.seq
 (.seq
 (.reg [⟨some 68, .mov (.tmp 10), none⟩,
 ⟨some 69, .mov (.tmp 68), none⟩,
 ⟨some 70, .mov (.tmp 11), some (69, true)⟩,
 ⟨some 71, .pick (.tmp 69) (.tmp 70) (.const (.bool false)), none⟩,
 ⟨some 72, .mov (.tmp 71), none⟩,
 ⟨some 73, .mov (.tmp 14), some (72, true)⟩,
 ⟨some 74, .bin .eql .int (.tmp 73) (.const (.int .i64 1)), some (72, true)⟩,
 ⟨some 75, .pick (.tmp 72) (.tmp 74) (.const (.bool false)), none⟩])
 (.cond (.tmp 75)
 (.seq
 (.reg [⟨some 76, .mov (.tmp 0), none⟩,
 ⟨some 77, .mov (.tmp 1), none⟩,
 ⟨some 78, .mov (.tmp 2), none⟩,
 ⟨some 79, .mov (.tmp 4), none⟩,
 ⟨some 80, .call (.func 79) [(.tmp 76), (.tmp 77), (.tmp 78), (.tmp 79)], none⟩])
 (.cond (.tmp 80)
 (.ret)
 (.skip)))
 (.skip)))
 (.seq
 (.seq
 (.dreg [⟨some 81, .mov (.tmp 1), none⟩,
 ⟨some 82, .bin .gtr .int (.tmp 81) (.const (.int .i64 0)), none⟩,
 ⟨some 83, .mov (.tmp 82), none⟩,
 ⟨some 84, .mov (.tmp 4), some (83, true)⟩,
 ⟨some 85, .mov (.tmp 0), some (83, true)⟩,
 ⟨some 86, .mov (.tmp 1), some (83, true)⟩,
 ⟨some 87, .bin .sub .int (.tmp 86) (.const (.int .i64 1)), some (83, true)⟩,
 ⟨some 88, .iaddr 4 (.tmp 85) (.tmp 87), some (83, true)⟩,
 ⟨some 89, .load true 4 (.tmp 88), some (83, true)⟩,
 ⟨some 90, .mov (.tmp 0), some (83, true)⟩,
 ⟨some 91, .mov (.tmp 13), some (83, true)⟩,
 ⟨some 92, .iaddr 4 (.tmp 90) (.tmp 91), some (83, true)⟩,
 ⟨some 93, .load true 4 (.tmp 92), some (83, true)⟩,
 ⟨some 94, .call (.tmp 84) [(.tmp 89), (.tmp 93)], some (83, true)⟩,
 ⟨some 95, .bin .lss .int (.tmp 94) (.const (.int .i64 0)), some (83, true)⟩,
 ⟨some 96, .un .not (.tmp 95), some (83, true)⟩,
 ⟨some 97, .pick (.tmp 83) (.tmp 96) (.const (.bool false)), none⟩]
 [[], [0], [1], [2], [2], [2], [5, 2], [4, 6, 2], [7, 2], [2], [2], [9, 10, 2], [11, 2], [3, 8, 12, 2, 2], [13, 2], [14, 2], [2, 15]]
 [[1], [81], [82], [4, 83], [0, 83], [1, 83], [86, 83], [85, 87, 83], [88, 83], [0, 83], [13, 83], [90, 91, 83], [92, 83], [84, 89, 93, 83], [94, 83], [95, 83], [83, 96]])
 (.cond (.tmp 97)
 (.seq
 (.reg [⟨some 98, .mov (.tmp 0), none⟩,
 ⟨some 99, .mov (.tmp 1), none⟩,
 ⟨some 100, .mov (.tmp 2), none⟩,
 ⟨some 101, .mov (.tmp 13), none⟩,
 ⟨some 102, .mov (.tmp 4), none⟩,
 ⟨some 103, .call (.func 80) [(.tmp 98), (.tmp 99), (.tmp 100), (.tmp 101), (.tmp 102)], none⟩,
 ⟨some 15, .mov (.tmp 103), none⟩])
 (.seq
 (.reg [⟨some 104, .mov (.tmp 15), none⟩,
 ⟨some 1, .mov (.tmp 104), none⟩])
 (.exit 1)))
 (.skip)))
 (.seq
 (.reg [⟨some 106, .mov (.tmp 0), none⟩,
 ⟨some 107, .mov (.tmp 1), none⟩,
 ⟨some 108, .mov (.tmp 2), none⟩,
 ⟨some 109, .mov (.tmp 13), none⟩,
 ⟨some 110, .mov (.tmp 4), none⟩,
 ⟨some 111, .call (.func 81) [(.tmp 106), (.tmp 107), (.tmp 108), (.tmp 109), (.tmp 110)], none⟩,
 ⟨some 105, .mov (.tmp 111), none⟩,
 ⟨some 112, .ext (.tmp 105) 0, none⟩,
 ⟨some 113, .ext (.tmp 105) 1, none⟩,
 ⟨some 16, .mov (.tmp 112), none⟩,
 ⟨some 17, .mov (.tmp 113), none⟩])
 (.seq
 (.reg [⟨some 114, .mov (.tmp 17), none⟩,
 ⟨some 11, .mov (.tmp 114), none⟩])
 (.seq
 (.reg [⟨some 115, .mov (.tmp 16), none⟩,
 ⟨some 116, .mov (.tmp 1), none⟩,
 ⟨some 117, .bin .sub .int (.tmp 115) (.tmp 116), none⟩,
 ⟨some 118, .mov (.tmp 2), none⟩,
 ⟨some 119, .mov (.tmp 16), none⟩,
 ⟨some 120, .bin .sub .int (.tmp 118) (.tmp 119), none⟩,
 ⟨some 18, .mov (.tmp 117), none⟩,
 ⟨some 19, .mov (.tmp 120), none⟩])
 (.seq
 (.reg [⟨some 121, .mov (.tmp 12), none⟩,
 ⟨some 122, .bin .quo .int (.tmp 121) (.const (.int .i64 8)), none⟩,
 ⟨some 20, .mov (.tmp 122), none⟩])
 (.seq
 (.reg [⟨some 123, .mov (.tmp 18), none⟩,
 ⟨some 124, .mov (.tmp 19), none⟩,
 ⟨some 125, .bin .lss .int (.tmp 123) (.tmp 124), none⟩])
 (.cond (.tmp 125)
 (.seq
 (.reg [⟨some 126, .mov (.tmp 18), none⟩,
 ⟨some 127, .mov (.tmp 20), none⟩,
 ⟨some 128, .bin .geq .int (.tmp 126) (.tmp 127), none⟩,
 ⟨some 10, .mov (.tmp 128), none⟩])
 (.seq
 (.reg [⟨some 129, .mov (.tmp 0), none⟩,
 ⟨some 130, .mov (.tmp 1), none⟩,
 ⟨some 131, .mov (.tmp 16), none⟩,
 ⟨some 132, .mov (.tmp 3), none⟩,
 ⟨some 133, .mov (.tmp 4), none⟩,
 ⟨some 134, .call (.func 64) [(.tmp 129), (.tmp 130), (.tmp 131), (.tmp 132), (.tmp 133)], none⟩])
 (.reg [⟨some 135, .mov (.tmp 16), none⟩,
 ⟨some 136, .bin .add .int (.tmp 135) (.const (.int .i64 1)), none⟩,
 ⟨some 1, .mov (.tmp 136), none⟩])))
 (.seq
 (.reg [⟨some 137, .mov (.tmp 19), none⟩,
 ⟨some 138, .mov (.tmp 20), none⟩,
 ⟨some 139, .bin .geq .int (.tmp 137) (.tmp 138), none⟩,
 ⟨some 10, .mov (.tmp 139), none⟩])
 (.seq
 (.reg [⟨some 140, .mov (.tmp 0), none⟩,
 ⟨some 141, .mov (.tmp 16), none⟩,
 ⟨some 142, .bin .add .int (.tmp 141) (.const (.int .i64 1)), none⟩,
 ⟨some 143, .mov (.tmp 2), none⟩,
 ⟨some 144, .mov (.tmp 3), none⟩,
 ⟨some 145, .mov (.tmp 4), none⟩,
 ⟨some 146, .call (.func 64) [(.tmp 140), (.tmp 142), (.tmp 143), (.tmp 144), (.tmp 145)], none⟩])
 (.reg [⟨some 147, .mov (.tmp 16), none⟩,
 ⟨some 2, .mov (.tmp 147), none⟩])))))))))))))))))
def ac64 : AC := .seq
 (.reg [⟨some 10, .mov (.const (.bool true)), none⟩])
 (.seq
 (.reg [⟨some 11, .mov (.const (.bool true)), none⟩])
 (.block 0
 (.loop ac64_l0)))
theorem fn64 : Fun Try.prog 64 148 ac64 [] := ⟨mixedU, Try.f64, _, Try.func64, rfl, by decide +kernel, rfl, by kernel_rfl, by kernel_rfl⟩
/- math/bits.Len -/
def ac65 : AC := .seq
 (.reg [⟨some 2, .mov (.const (.int .i64 0)), none⟩])
 (.seq
 (.cond (.const (.bool false))
 (.seq
 (.reg [⟨some 3, .mov (.tmp 0), none⟩,
 ⟨some 4, .conv .u32 (.tmp 3), none⟩,
 ⟨some 5, .call (.func 82) [(.tmp 4)], none⟩,
 ⟨some 2, .mov (.tmp 5), none⟩])
 (.ret))
 (.skip))
 (.seq
 (.reg [⟨some 6, .mov (.tmp 0), none⟩,
 ⟨some 7, .call (.func 83) [(.tmp 6)], none⟩,
 ⟨some 2, .mov (.tmp 7), none⟩])
 (.ret)))
theorem fn65 : Fun Try.prog 65 8 ac65 [.tmp 2] := ⟨mixedU, Try.f65, _, Try.func65, rfl, by decide +kernel, rfl, by kernel_rfl, by kernel_rfl⟩
/- glossator/glossatorref2.InRange -/
/- slices.ContainsFunc[[]glossator/api.Type,glossator/api.Type] -/
def ac68 : AC := .seq
 (.reg [⟨some 4, .mov (.const (.bool false)), none⟩])
 (.seq
 (.reg [⟨some 5, .mov (.tmp 0), none⟩,
 ⟨some 6, .mov (.tmp 1), none⟩,
 ⟨some 7, .call (.func 84) [(.tmp 5), (.tmp 6)], none⟩,
 ⟨some 8, .bin .geq .int (.tmp 7) (.const (.int .i64 0)), none⟩,
 ⟨some 4, .mov (.tmp 8), none⟩])
 (.ret))
theorem fn68 : Fun Try.prog 68 9 ac68 [.tmp 4] := ⟨mixedU, Try.f68, _, Try.func68, rfl, by decide +kernel, rfl, by kernel_rfl, by kernel_rfl⟩
/- glossator/types.Clone$1 -/
/- glossator/types.nodeWellFormed -/
def ac70 : AC := .seq
 (.reg [⟨some 1, .box 29 3 (.tmp 0), none⟩,
 ⟨some 2, .mov (.const (.bool false)), none⟩])
 (.seq
 (.reg [⟨some 4, .faddr 2 (.tmp 1), none⟩,
 ⟨some 5, .load false 1 (.tmp 4), none⟩,
 ⟨some 6, .slen false (.tmp 5), none⟩,
 ⟨some 3, .mov (.tmp 6), none⟩])
 (.seq
 (.seq
 (.reg [⟨some 7, .faddr 0 (.tmp 1), none⟩,
 ⟨some 8, .load false 1 (.tmp 7), none⟩])
 (.block 0
 (.seq
 (.seq
 (.reg [⟨some 10, .bin .eql .int (.tmp 8) (.const (.int .i64 0)), none⟩,
 ⟨some 9, .mov (.tmp 10), none⟩])
 (.cond (.tmp 9)
 (.skip)
 (.seq
 (.reg [⟨some 11, .bin .eql .int (.tmp 8) (.const (.int .i64 3)), none⟩,
 ⟨some 9, .mov (.tmp 11), none⟩])
 (.cond (.tmp 9)
 (.skip)
 (.seq
 (.reg [⟨some 12, .bin .eql .int (.tmp 8) (.const (.int .i64 4)), none⟩,
 ⟨some 9, .mov (.tmp 12), none⟩])
 (.cond (.tmp 9)
 (.skip)
 (.seq
 (.reg [⟨some 13, .bin .eql .int (.tmp 8) (.const (.int .i64 5)), none⟩,
 ⟨some 9, .mov (.tmp 13), none⟩])
 (.cond (.tmp 9)
 (.skip)
 (.reg [⟨some 14, .bin .eql .int (.tmp 8) (.const (.int .i64 6)), none⟩,
 ⟨some 9, .mov (.tmp 14), none⟩])))))))))
 (.cond (.tmp 9)
 (.seq
 (.reg [⟨some 15, .faddr 1 (.tmp 1), none⟩,
 ⟨some 16, .load false 1 (.tmp 15), none⟩,
 ⟨some 17, .bin .eql .int (.tmp 16) (.const (.int .i64 0)), none⟩,
 ⟨some 18, .mov (.tmp 17), none⟩,
 ⟨some 19, .mov (.tmp 3), some (18, true)⟩,
 ⟨some 20, .bin .eql .int (.tmp 19) (.const (.int .i64 0)), some (18, true)⟩,
 ⟨some 21, .pick (.tmp 18) (.tmp 20) (.const (.bool false)), none⟩,
 ⟨some 2, .mov (.tmp 21), none⟩])
 (.ret))
 (.seq
 (.seq
 (.reg [⟨some 23, .bin .eql .int (.tmp 8) (.const (.int .i64 1)), none⟩,
 ⟨some 22, .mov (.tmp 23), none⟩])
 (.cond (.tmp 22)
 (.skip)
 (.reg [⟨some 24, .bin .eql .int (.tmp 8) (.const (.int .i64 2)), none⟩,
 ⟨some 22, .mov (.tmp 24), none⟩])))
 (.cond (.tmp 22)
 (.seq
 (.reg [⟨some 25, .faddr 1 (.tmp 1), none⟩,
 ⟨some 26, .load false 1 (.tmp 25), none⟩,
 ⟨some 27, .bin .geq .int (.tmp 26) (.const (.int .i64 0)), none⟩,
 ⟨some 28, .mov (.tmp 27), none⟩,
 ⟨some 29, .mov (.tmp 3), some (28, true)⟩,
 ⟨some 30, .bin .eql .int (.tmp 29) (.const (.int .i64 0)), some (28, true)⟩,
 ⟨some 31, .pick (.tmp 28) (.tmp 30) (.const (.bool false)), none⟩,
 ⟨some 2, .mov (.tmp 31), none⟩])
 (.ret))
 (.seq
 (.reg [⟨some 33, .bin .eql .int (.tmp 8) (.const (.int .i64 7)), none⟩,
 ⟨some 32, .mov (.tmp 33), none⟩])
 (.cond (.tmp 32)
 (.seq
 (.reg [⟨some 34, .faddr 1 (.tmp 1), none⟩,
 ⟨some 35, .load false 1 (.tmp 34), none⟩,
 ⟨some 36, .bin .geq .int (.tmp 35) (.const (.int .i64 0)), none⟩,
 ⟨some 2, .mov (.tmp 36), none⟩])
 (.ret))
 (.seq
 (.reg [⟨some 38, .bin .eql .int (.tmp 8) (.const (.int .i64 8)), none⟩,
 ⟨some 37, .mov (.tmp 38), none⟩])
 (.cond (.tmp 37)
 (.seq
 (.reg [⟨some 39, .faddr 1 (.tmp 1), none⟩,
 ⟨some 40, .load false 1 (.tmp 39), none⟩,
 ⟨some 41, .bin .eql .int (.tmp 40) (.const (.int .i64 0)), none⟩,
 ⟨some 42, .mov (.tmp 41), none⟩,
 ⟨some 43, .faddr 1 (.tmp 1), some (42, false)⟩,
 ⟨some 44, .load false 1 (.tmp 43), some (42, false)⟩,
 ⟨some 45, .bin .eql .int (.tmp 44) (.const (.int .i64 1)), some (42, false)⟩,
 ⟨some 46, .pick (.tmp 42) (.const (.bool true)) (.tmp 45), none⟩,
 ⟨some 47, .mov (.tmp 46), none⟩,
 ⟨some 48, .mov (.tmp 3), some (47, true)⟩,
 ⟨some 49, .bin .eql .int (.tmp 48) (.const (.int .i64 1)), some (47, true)⟩,
 ⟨some 50, .pick (.tmp 47) (.tmp 49) (.const (.bool false)), none⟩,
 ⟨some 2, .mov (.tmp 50), none⟩])
 (.ret))
 (.seq
 (.reg [⟨some 52, .bin .eql .int (.tmp 8) (.const (.int .i64 9)), none⟩,
 ⟨some 51, .mov (.tmp 52), none⟩])
 (.cond (.tmp 51)
 (.seq
 (.reg [⟨some 53, .faddr 1 (.tmp 1), none⟩,
 ⟨some 54, .load false 1 (.tmp 53), none⟩,
 ⟨some 55, .bin .eql .int (.tmp 54) (.const (.int .i64 0)), none⟩,
 ⟨some 56, .mov (.tmp 55), none⟩,
 ⟨some 57, .mov (.tmp 3), some (56, true)⟩,
 ⟨some 58, .bin .gtr .int (.tmp 57) (.const (.int .i64 0)), some (56, true)⟩,
 ⟨some 59, .pick (.tmp 56) (.tmp 58) (.const (.bool false)), none⟩,
 ⟨some 2, .mov (.tmp 59), none⟩])
 (.ret))
 (.seq
 (.reg [⟨some 61, .bin .eql .int (.tmp 8) (.const (.int .i64 10)), none⟩,
 ⟨some 60, .mov (.tmp 61), none⟩])
 (.cond (.tmp 60)
 (.seq
 (.reg [⟨some 62, .faddr 1 (.tmp 1), none⟩,
 ⟨some 63, .load false 1 (.tmp 62), none⟩,
 ⟨some 64, .bin .geq .int (.tmp 63) (.const (.int .i64 0)), none⟩,
 ⟨some 65, .mov (.tmp 64), none⟩,
 ⟨some 66, .mov (.tmp 3), some (65, true)⟩,
 ⟨some 67, .bin .eql .int (.tmp 66) (.const (.int .i64 1)), some (65, true)⟩,
 ⟨some 68, .pick (.tmp 65) (.tmp 67) (.const (.bool false)), none⟩,
 ⟨some 2, .mov (.tmp 68), none⟩])
 (.ret))
 (.skip)))))))))))))))
 (.seq
 (.reg [⟨some 2, .mov (.const (.bool false)), none⟩])
 (.ret))))
theorem fn70 : Fun Try.prog 70 69 ac70 [.tmp 2] := ⟨mixedU, Try.f70, _, Try.func70, rfl, by decide +kernel, rfl, by kernel_rfl, by kernel_rfl⟩
/- glossator/types.wellFormed$1 -/
def ac71 : AC := .seq
 (.reg [⟨some 1, .box 29 3 (.tmp 0), none⟩,
 ⟨some 2, .mov (.const (.bool false)), none⟩])
 (.seq
 (.reg [⟨some 3, .load true 3 (.tmp 1), none⟩,
 ⟨some 4, .call (.func 57) [(.tmp 3)], none⟩,
 ⟨some 5, .un .not (.tmp 4), none⟩,
 ⟨some 2, .mov (.tmp 5), none⟩])
 (.ret))
theorem fn71 : Fun Try.prog 71 6 ac71 [.tmp 2] := ⟨mixedU, Try.f71, _, Try.func71, rfl, by decide +kernel, rfl, by kernel_rfl, by kernel_rfl⟩
/- slices.Contains[[]int,int] -/
/- (*glossator/unify.Solver).bind -/
def ac73 : AC := .seq
 (.reg [⟨some 5, .box 29 3 (.tmp 2), none⟩,
 ⟨some 6, .mov (.const (.bool false)), none⟩])
 (.seq
 (.seq
 (.reg [⟨some 7, .mov (.tmp 0), none⟩,
 ⟨some 8, .mov (.tmp 1), none⟩,
 ⟨some 9, .load true 3 (.tmp 5), none⟩,
 ⟨some 10, .mkmap, none⟩,
 ⟨some 11, .call (.func 86) [(.tmp 7), (.tmp 8), (.tmp 9), (.tmp 10)], none⟩])
 (.cond (.tmp 11)
 (.seq
 (.reg [⟨some 6, .mov (.const (.bool false)), none⟩])
 (.ret))
 (.skip)))
 (.seq
 (.dreg [⟨some 12, .mov (.tmp 0), none⟩,
 ⟨some 13, .nilc (.tmp 12), none⟩,
 ⟨some 14, .faddr 0 (.tmp 13), none⟩,
 ⟨some 15, .load false 1 (.tmp 14), none⟩,
 ⟨some 16, .mov (.tmp 1), none⟩,
 ⟨some 17, .load true 3 (.tmp 5), none⟩,
 ⟨none, .mupd (.tmp 15) (.tmp 16) (.tmp 17), none⟩]
 [[], [0], [1], [2], [], [], [3, 4, 5, 0, 1, 2, 3, 4, 5]]
 [[0], [12], [13], [14], [1], [5], [15, 16, 17]])
 (.seq
 (.reg [⟨some 6, .mov (.const (.bool true)), none⟩])
 (.ret))))
theorem fn73 : Fun Try.prog 73 18 ac73 [.tmp 6] := ⟨mixedU, Try.f73, _, Try.func73, rfl, by decide +kernel, rfl, by kernel_rfl, by kernel_rfl⟩
/- slices.insertionSortCmpFunc[glossator/api.TypeBinding] -/
def ac74_l0 : AC := .seq
 (.seq
 (.dreg [⟨some 18, .mov (.tmp 9), none⟩,
 ⟨some 19, .mov (.tmp 1), none⟩,
 ⟨some 20, .bin .gtr .int (.tmp 18) (.tmp 19), none⟩,
 ⟨some 21, .mov (.tmp 20), none⟩,
 ⟨some 22, .mov (.tmp 3), some (21, true)⟩,
 ⟨some 23, .mov (.tmp 0), some (21, true)⟩,
 ⟨some 24, .mov (.tmp 9), some (21, true)⟩,
 ⟨some 25, .iaddr 4 (.tmp 23) (.tmp 24), some (21, true)⟩,
 ⟨some 26, .load true 4 (.tmp 25), some (21, true)⟩,
 ⟨some 27, .mov (.tmp 0), some (21, true)⟩,
 ⟨some 28, .mov (.tmp 9), some (21, true)⟩,
 ⟨some 29, .bin .sub .int (.tmp 28) (.const (.int .i64 1)), some (21, true)⟩,
 ⟨some 30, .iaddr 4 (.tmp 27) (.tmp 29), some (21, true)⟩,
 ⟨some 31, .load true 4 (.tmp 30), some (21, true)⟩,
 ⟨some 32, .call (.tmp 22) [(.tmp 26), (.tmp 31)], some (21, true)⟩,
 ⟨some 33, .bin .lss .int (.tmp 32) (.const (.int .i64 0)), some (21, true)⟩,
 ⟨some 34, .pick (.tmp 21) (.tmp 33) (.const (.bool false)), none⟩]
 [[], [], [0, 1], [2], [3], [3], [3], [5, 6, 3], [7, 3], [3], [3], [10, 3], [9, 11, 3], [12, 3], [4, 8, 13, 3, 3], [14, 3], [3, 15]]
 [[9], [1], [18, 19], [20], [3, 21], [0, 21], [9, 21], [23, 24, 21], [25, 21], [0, 21], [9, 21], [28, 21], [27, 29, 21], [30, 21], [22, 26, 31, 21], [32, 21], [21, 33]])
 (.cond (.tmp 34)
 (.skip)
 (.exit 2)))
 (.seq
 (.block 3
 (.dreg [⟨some 37, .mov (.tmp 0), none⟩,
 ⟨some 38, .mov (.tmp 9), none⟩,
 ⟨some 39, .mov (.tmp 0), none⟩,
 ⟨some 40, .mov (.tmp 9), none⟩,
 ⟨some 41, .bin .sub .int (.tmp 40) (.const (.int .i64 1)), none⟩,
 ⟨some 42, .mov (.tmp 0), none⟩,
 ⟨some 43, .mov (.tmp 9), none⟩,
 ⟨some 44, .bin .sub .int (.tmp 43) (.const (.int .i64 1)), none⟩,
 ⟨some 45, .iaddr 4 (.tmp 42) (.tmp 44), none⟩,
 ⟨some 46, .load true 4 (.tmp 45), none⟩,
 ⟨some 47, .mov (.tmp 0), none⟩,
 ⟨some 48, .mov (.tmp 9), none⟩,
 ⟨some 49, .iaddr 4 (.tmp 47) (.tmp 48), none⟩,
 ⟨some 50, .load true 4 (.tmp 49), none⟩,
 ⟨some 51, .iaddr 4 (.tmp 37) (.tmp 38), none⟩,
 ⟨none, .store 4 (.tmp 51) (.tmp 46), none⟩,
 ⟨some 52, .iaddr 4 (.tmp 39) (.tmp 41), none⟩,
 ⟨none, .store 4 (.tmp 52) (.tmp 50), none⟩]
 [[], [], [], [], [3], [], [], [6], [5, 7], [8], [], [], [10, 11], [12], [0, 1, 0, 1, 5, 6, 7, 8, 9, 13], [14, 9, 0, 1, 5, 6, 7, 8, 9, 13], [2, 4, 0, 1, 2, 3, 4, 5, 6, 7, 8, 9, 10, 11, 12, 13, 14, 15], [16, 13, 15, 0, 1, 2, 3, 4, 5, 6, 7, 8, 9, 10, 11, 12, 13, 14, 15]]
 [[0], [9], [0], [9], [40], [0], [9], [43], [42, 44], [45], [0], [9], [47, 48], [49], [37, 38], [51, 46], [39, 41], [52, 50]]))
 (.reg [⟨some 35, .mov (.tmp 9), none⟩,
 ⟨some 36, .bin .sub .int (.tmp 35) (.const (.int .i64 1)), none⟩,
 ⟨some 9, .mov (.tmp 36), none⟩]))
def ac74_l1 : AC := .seq
 (.seq
 (.reg [⟨some 12, .mov (.tmp 8), none⟩,
 ⟨some 13, .mov (.tmp 2), none⟩,
 ⟨some 14, .bin .lss .int (.tmp 12) (.tmp 13), none⟩])
 (.cond (.tmp 14)
 (.skip)
 (.exit 0)))
 (.seq
 (.block 1
 (.seq
 (.reg [⟨some 17, .mov (.tmp 8), none⟩,
 ⟨some 9, .mov (.tmp 17), none⟩])
 (.block 2
 (.loop ac74_l0))))
 (.reg [⟨some 15, .mov (.tmp 8), none⟩,
 ⟨some 16, .bin .add .int (.tmp 15) (.const (.int .i64 1)), none⟩,
 ⟨some 8, .mov (.tmp 16), none⟩]))
def ac74 : AC := .seq
 (.reg [⟨some 10, .mov (.tmp 1), none⟩,
 ⟨some 11, .bin .add .int (.tmp 10) (.const (.int .i64 1)), none⟩,
 ⟨some 8, .mov (.tmp 11), none⟩])
 (.block 0
 (.loop ac74_l1))
theorem fn74 : Fun Try.prog 74 53 ac74 [] := ⟨mixedU, Try.f74, _, Try.func74, rfl, by decide +kernel, rfl, by kernel_rfl, by kernel_rfl⟩
/- math/bits.Len64 -/
def ac83 : AC := .seq
 (.reg [⟨some 2, .mov (.const (.int .i64 0)), none⟩])
 (.seq
 (.seq
 (.reg [⟨some 3, .mov (.tmp 0), none⟩,
 ⟨some 4, .bin .geq .int (.tmp 3) (.const (.int .u64 4294967296)), none⟩])
 (.cond (.tmp 4)
 (.seq
 (.reg [⟨some 5, .mov (.tmp 0), none⟩,
 ⟨some 6, .bin .shr .int (.tmp 5) (.const (.int .u64 32)), none⟩,
 ⟨some 0, .mov (.tmp 6), none⟩])
 (.reg [⟨some 2, .mov (.const (.int .i64 32)), none⟩]))
 (.skip)))
 (.seq
 (.seq
 (.reg [⟨some 7, .mov (.tmp 0), none⟩,
 ⟨some 8, .bin .geq .int (.tmp 7) (.const (.int .u64 65536)), none⟩])
 (.cond (.tmp 8)
 (.seq
 (.reg [⟨some 9, .mov (.tmp 0), none⟩,
 ⟨some 10, .bin .shr .int (.tmp 9) (.const (.int .u64 16)), none⟩,
 ⟨some 0, .mov (.tmp 10), none⟩])
 (.reg [⟨some 11, .mov (.tmp 2), none⟩,
 ⟨some 12, .bin .add .int (.tmp 11) (.const (.int .i64 16)), none⟩,
 ⟨some 2, .mov (.tmp 12), none⟩]))
 (.skip)))
 (.seq
 (.seq
 (.reg [⟨some 13, .mov (.tmp 0), none⟩,
 ⟨some 14, .bin .geq .int (.tmp 13) (.const (.int .u64 256)), none⟩])
 (.cond (.tmp 14)
 (.seq
 (.reg [⟨some 15, .mov (.tmp 0), none⟩,
 ⟨some 16, .bin .shr .int (.tmp 15) (.const (.int .u64 8)), none⟩,
 ⟨some 0, .mov (.tmp 16), none⟩])
 (.reg [⟨some 17, .mov (.tmp 2), none⟩,
 ⟨some 18, .bin .add .int (.tmp 17) (.const (.int .i64 8)), none⟩,
 ⟨some 2, .mov (.tmp 18), none⟩]))
 (.skip)))
 (.seq
 (.reg [⟨some 19, .mov (.tmp 2), none⟩,
 ⟨some 20, .mov (.tmp 0), none⟩,
 ⟨some 21, .conv .u8 (.tmp 20), none⟩,
 ⟨some 22, .sindex (.const (.string ⟨#[0, 1, 2, 2, 3, 3, 3, 3, 4, 4, 4, 4, 4, 4, 4, 4, 5, 5, 5, 5, 5, 5, 5, 5, 5, 5, 5, 5, 5, 5, 5, 5, 6, 6, 6, 6, 6, 6, 6, 6, 6, 6, 6, 6, 6, 6, 6, 6, 6, 6, 6, 6, 6, 6, 6, 6, 6, 6, 6, 6, 6, 6, 6, 6, 7, 7, 7, 7, 7, 7, 7, 7, 7, 7, 7, 7, 7, 7, 7, 7, 7, 7, 7, 7, 7, 7, 7, 7, 7, 7, 7, 7, 7, 7, 7, 7, 7, 7, 7, 7, 7, 7, 7, 7, 7, 7, 7, 7, 7, 7, 7, 7, 7, 7, 7, 7, 7, 7, 7, 7, 7, 7, 7, 7, 7, 7, 7, 7, 8, 8, 8, 8, 8, 8, 8, 8, 8, 8, 8, 8, 8, 8, 8, 8, 8, 8, 8, 8, 8, 8, 8, 8, 8, 8, 8, 8, 8, 8, 8, 8, 8, 8, 8, 8, 8, 8, 8, 8, 8, 8, 8, 8, 8, 8, 8, 8, 8, 8, 8, 8, 8, 8, 8, 8, 8, 8, 8, 8, 8, 8, 8, 8, 8, 8, 8, 8, 8, 8, 8, 8, 8, 8, 8, 8, 8, 8, 8, 8, 8, 8, 8, 8, 8, 8, 8, 8, 8, 8, 8, 8, 8, 8, 8, 8, 8, 8, 8, 8, 8, 8, 8, 8, 8, 8, 8, 8, 8, 8, 8, 8, 8, 8, 8, 8, 8, 8, 8, 8, 8, 8, 8, 8, 8, 8, 8, 8]⟩)) (.tmp 21), none⟩,
 ⟨some 23, .conv .i64 (.tmp 22), none⟩,
 ⟨some 24, .bin .add .int (.tmp 19) (.tmp 23), none⟩,
 ⟨some 2, .mov (.tmp 24), none⟩])
 (.ret)))))
theorem fn83 : Fun Try.prog 83 25 ac83 [.tmp 2] := ⟨mixedU, Try.f83, _, Try.func83, rfl, by decide +kernel, rfl, by kernel_rfl, by kernel_rfl⟩
/- slices.IndexFunc[[]glossator/api.Type,glossator/api.Type] -/
def ac84_l0 : AC := .seq
 (.reg [⟨some 9, .bin .lss .int (.tmp 8) (.tmp 7), none⟩])
 (.seq
 (.cond (.tmp 9)
 (.skip)
 (.exit 0))
 (.seq
 (.block 1
 (.seq
 (.reg [⟨some 10, .mov (.tmp 8), none⟩,
 ⟨some 5, .mov (.tmp 10), none⟩])
 (.seq
 (.reg [⟨some 11, .mov (.tmp 1), none⟩,
 ⟨some 12, .mov (.tmp 0), none⟩,
 ⟨some 13, .mov (.tmp 5), none⟩,
 ⟨some 14, .iaddr 3 (.tmp 12) (.tmp 13), none⟩,
 ⟨some 15, .load true 3 (.tmp 14), none⟩,
 ⟨some 16, .call (.tmp 11) [(.tmp 15)], none⟩])
 (.cond (.tmp 16)
 (.seq
 (.reg [⟨some 17, .mov (.tmp 5), none⟩,
 ⟨some 4, .mov (.tmp 17), none⟩])
 (.ret))
 (.skip)))))
 (.reg [⟨some 18, .bin .add .int (.tmp 8) (.const (.int .i64 1)), none⟩,
 ⟨some 8, .mov (.tmp 18), none⟩])))
def ac84 : AC := .seq
 (.reg [⟨some 4, .mov (.const (.int .i64 0)), none⟩])
 (.seq
 (.seq
 (.reg [⟨some 6, .mov (.tmp 0), none⟩,
 ⟨some 7, .slen false (.tmp 6), none⟩,
 ⟨some 8, .mov (.const (.int .i64 0)), none⟩])
 (.block 0
 (.loop ac84_l0)))
 (.seq
 (.reg [⟨some 4, .mov (.const (.int .i64 (-1))), none⟩])
 (.ret)))
theorem fn84 : Fun Try.prog 84 19 ac84 [.tmp 4] := ⟨mixedU, Try.f84, _, Try.func84, rfl, by decide +kernel, rfl, by kernel_rfl, by kernel_rfl⟩
/- slices.Index[[]int,int] -/
/- (*glossator/unify.Solver).occurs -/
def ac86 : AC := .seq
 (.reg [⟨some 4, .box 56 1 (.tmp 0), none⟩,
 ⟨some 5, .box 3 1 (.tmp 1), none⟩,
 ⟨some 6, .box 29 3 (.tmp 2), none⟩,
 ⟨some 7, .box 107 1 (.tmp 3), none⟩,
 ⟨some 8, .mov (.const (.bool false)), none⟩])
 (.seq
 (.seq
 (.reg [⟨some 11, .faddr 0 (.tmp 6), none⟩,
 ⟨some 12, .load false 1 (.tmp 11), none⟩,
 ⟨some 13, .bin .eql .int (.tmp 12) (.const (.int .i64 1)), none⟩])
 (.cond (.tmp 13)
 (.seq
 (.seq
 (.reg [⟨some 14, .faddr 1 (.tmp 6), none⟩,
 ⟨some 15, .load false 1 (.tmp 14), none⟩,
 ⟨some 16, .load false 1 (.tmp 5), none⟩,
 ⟨some 17, .bin .eql .int (.tmp 15) (.tmp 16), none⟩])
 (.cond (.tmp 17)
 (.seq
 (.reg [⟨some 8, .mov (.const (.bool true)), none⟩])
 (.ret))
 (.skip)))
 (.seq
 (.dreg [⟨some 19, .load false 1 (.tmp 4), none⟩,
 ⟨some 20, .nilc (.tmp 19), none⟩,
 ⟨some 21, .faddr 0 (.tmp 20), none⟩,
 ⟨some 22, .load false 1 (.tmp 21), none⟩,
 ⟨some 23, .faddr 1 (.tmp 6), none⟩,
 ⟨some 24, .load false 1 (.tmp 23), none⟩,
 ⟨some 25, .lookup true [(.int .i64 0), (.int .i64 0), (.slice none 0 0)] true (.tmp 22) (.tmp 24), none⟩,
 ⟨some 18, .mov (.tmp 25), none⟩,
 ⟨some 26, .ext (.tmp 18) 0, none⟩,
 ⟨some 27, .ext (.tmp 18) 1, none⟩,
 ⟨some 9, .alloc 29 3 [(.int .i64 0), (.int .i64 0), (.slice none 0 0)], none⟩,
 ⟨none, .store 3 (.tmp 9) (.tmp 26), none⟩,
 ⟨some 10, .mov (.tmp 27), none⟩]
 [[], [0], [1], [2], [], [4], [3, 5], [6], [7], [7], [], [10, 8, 0, 1, 2, 3, 4, 5, 6, 7, 8, 10], [9, 11, 0, 1, 2, 3, 4, 5, 6, 7, 8, 9, 10, 11]]
 [[4], [19], [20], [21], [6], [23], [22, 24], [25], [18], [18], [], [9, 26], [27]])
 (.seq
 (.seq
 (.reg [⟨some 28, .mov (.tmp 10), none⟩,
 ⟨some 29, .un .not (.tmp 28), none⟩,
 ⟨some 30, .mov (.tmp 29), none⟩,
 ⟨some 31, .load false 1 (.tmp 7), some (30, false)⟩,
 ⟨some 32, .faddr 1 (.tmp 6), some (30, false)⟩,
 ⟨some 33, .load false 1 (.tmp 32), some (30, false)⟩,
 ⟨some 34, .lookup false [(.int .i64 0)] false (.tmp 31) (.tmp 33), some (30, false)⟩,
 ⟨some 35, .bin .eql .int (.tmp 34) (.const (.int .i64 1)), some (30, false)⟩,
 ⟨some 36, .pick (.tmp 30) (.const (.bool true)) (.tmp 35), none⟩])
 (.cond (.tmp 36)
 (.seq
 (.reg [⟨some 8, .mov (.const (.bool false)), none⟩])
 (.ret))
 (.skip)))
 (.seq
 (.reg [⟨some 37, .load false 1 (.tmp 7), none⟩,
 ⟨some 38, .faddr 1 (.tmp 6), none⟩,
 ⟨some 39, .load false 1 (.tmp 38), none⟩,
 ⟨none, .mupd (.tmp 37) (.tmp 39) (.const (.int .i64 1)), none⟩])
 (.seq
 (.reg [⟨some 40, .load false 1 (.tmp 4), none⟩,
 ⟨some 41, .load false 1 (.tmp 5), none⟩,
 ⟨some 42, .load true 3 (.tmp 9), none⟩,
 ⟨some 43, .load false 1 (.tmp 7), none⟩,
 ⟨some 44, .call (.func 86) [(.tmp 40), (.tmp 41), (.tmp 42), (.tmp 43)], none⟩,
 ⟨some 8, .mov (.tmp 44), none⟩])
 (.ret))))))
 (.skip)))
 (.seq
 (.reg [⟨some 45, .faddr 2 (.tmp 6), none⟩,
 ⟨some 46, .load false 1 (.tmp 45), none⟩,
 ⟨some 47, .mkfn 92 [(.tmp 4), (.tmp 5), (.tmp 7)], none⟩,
 ⟨some 48, .call (.func 68) [(.tmp 46), (.tmp 47)], none⟩,
 ⟨some 8, .mov (.tmp 48), none⟩])
 (.ret)))
theorem fn86 : Fun Try.prog 86 49 ac86 [.tmp 8] := ⟨mixedU, Try.f86, _, Try.func86, rfl, by decide +kernel, rfl, by kernel_rfl, by kernel_rfl⟩
/- (*glossator/unify.Solver).occurs$1 -/
def ac92 : AC := .seq
 (.reg [⟨some 4, .box 29 3 (.tmp 0), none⟩,
 ⟨some 5, .mov (.const (.bool false)), none⟩])
 (.seq
 (.reg [⟨some 6, .load false 1 (.tmp 1), none⟩,
 ⟨some 7, .load false 1 (.tmp 2), none⟩,
 ⟨some 8, .load true 3 (.tmp 4), none⟩,
 ⟨some 9, .load false 1 (.tmp 3), none⟩,
 ⟨some 10, .call (.func 86) [(.tmp 6), (.tmp 7), (.tmp 8), (.tmp 9)], none⟩,
 ⟨some 5, .mov (.tmp 10), none⟩])
 (.ret))
theorem fn92 : Fun Try.prog 92 11 ac92 [.tmp 5] := ⟨mixedU, Try.f92, _, Try.func92, rfl, by decide +kernel, rfl, by kernel_rfl, by kernel_rfl⟩
end Go.Proofs.Ytiediojibljpiaa
