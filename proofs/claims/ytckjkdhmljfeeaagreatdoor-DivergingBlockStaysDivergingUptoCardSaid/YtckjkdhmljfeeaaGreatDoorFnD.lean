/- The compact texts of the functions, printed by a program of mine (wip/tools/PrintFn.lean); each is shown to be what the translation compiles to. -/
import Derived.Test.YtckjkdhmljfeeaaGreatDoorK2
import Derived.Test.YtckjkdhmljfeeaaGreatDoorProg
set_option maxRecDepth 100000
namespace Go.Proofs.YtckjkdhmljfeeaaGreatDoor
open Go Go.Ab
theorem mixedD : Tryz.prog.follows .mixedOrders = true := by kernel_rfl
/- glossator/glossatorkeep2.DivergingBlockStaysDiverging -/
def ac4 : AC := .seq
 (.reg [⟨some 1, .box 38 7 (.tmp 0), none⟩,
 ⟨some 2, .mov (.const (.bool false)), none⟩])
 (.seq
 (.seq
 (.reg [⟨some 9, .call (.func 13) [], none⟩,
 ⟨some 10, .un .not (.tmp 9), none⟩])
 (.cond (.tmp 10)
 (.seq
 (.reg [⟨some 2, .mov (.const (.bool false)), none⟩])
 (.ret))
 (.skip)))
 (.seq
 (.reg [⟨some 11, .build [(.int .i64 0), (.int .i64 0), (.string ⟨#[]⟩), (.int .i64 0), (.int .i64 0), (.int .i64 0), (.slice none 0 0)] [(0, 1), (1, 1), (2, 1), (3, 1), (4, 1), (5, 1), (6, 1)] [(0, (.const (.int .i64 0)))], none⟩,
 ⟨some 3, .alloc 38 7 [(.int .i64 0), (.int .i64 0), (.string ⟨#[]⟩), (.int .i64 0), (.int .i64 0), (.int .i64 0), (.slice none 0 0)], none⟩,
 ⟨none, .store 7 (.tmp 3) (.tmp 11), none⟩])
 (.seq
 (.reg [⟨some 12, .load true 7 (.tmp 1), none⟩,
 ⟨some 13, .bslice 38 7 [(.int .i64 0), (.int .i64 0), (.string ⟨#[]⟩), (.int .i64 0), (.int .i64 0), (.int .i64 0), (.slice none 0 0)] 1 [(0, (.tmp 12))], none⟩,
 ⟨some 14, .build [(.int .i64 0), (.int .i64 0), (.string ⟨#[]⟩), (.int .i64 0), (.int .i64 0), (.int .i64 0), (.slice none 0 0)] [(0, 1), (1, 1), (2, 1), (3, 1), (4, 1), (5, 1), (6, 1)] [(0, (.const (.int .i64 26))), (6, (.tmp 13))], none⟩,
 ⟨some 4, .alloc 38 7 [(.int .i64 0), (.int .i64 0), (.string ⟨#[]⟩), (.int .i64 0), (.int .i64 0), (.int .i64 0), (.slice none 0 0)], none⟩,
 ⟨none, .store 7 (.tmp 4) (.tmp 14), none⟩])
 (.seq
 (.reg [⟨some 15, .load true 7 (.tmp 4), none⟩,
 ⟨some 16, .load true 7 (.tmp 3), none⟩,
 ⟨some 17, .bslice 38 7 [(.int .i64 0), (.int .i64 0), (.string ⟨#[]⟩), (.int .i64 0), (.int .i64 0), (.int .i64 0), (.slice none 0 0)] 2 [(0, (.tmp 15)), (1, (.tmp 16))], none⟩,
 ⟨some 18, .build [(.int .i64 0), (.int .i64 0), (.string ⟨#[]⟩), (.int .i64 0), (.int .i64 0), (.int .i64 0), (.slice none 0 0)] [(0, 1), (1, 1), (2, 1), (3, 1), (4, 1), (5, 1), (6, 1)] [(0, (.const (.int .i64 21))), (6, (.tmp 17))], none⟩,
 ⟨some 5, .alloc 38 7 [(.int .i64 0), (.int .i64 0), (.string ⟨#[]⟩), (.int .i64 0), (.int .i64 0), (.int .i64 0), (.slice none 0 0)], none⟩,
 ⟨none, .store 7 (.tmp 5) (.tmp 18), none⟩])
 (.seq
 (.reg [⟨some 19, .build [(.int .i64 0), (.int .i64 0), (.string ⟨#[]⟩), (.int .i64 0), (.int .i64 0), (.int .i64 0), (.slice none 0 0)] [(0, 1), (1, 1), (2, 1), (3, 1), (4, 1), (5, 1), (6, 1)] [(0, (.const (.int .i64 28)))], none⟩,
 ⟨some 20, .load true 7 (.tmp 5), none⟩,
 ⟨some 21, .load true 7 (.tmp 3), none⟩,
 ⟨some 22, .bslice 38 7 [(.int .i64 0), (.int .i64 0), (.string ⟨#[]⟩), (.int .i64 0), (.int .i64 0), (.int .i64 0), (.slice none 0 0)] 3 [(0, (.tmp 19)), (1, (.tmp 20)), (2, (.tmp 21))], none⟩,
 ⟨some 23, .build [(.int .i64 0), (.int .i64 0), (.string ⟨#[]⟩), (.int .i64 0), (.int .i64 0), (.int .i64 0), (.slice none 0 0)] [(0, 1), (1, 1), (2, 1), (3, 1), (4, 1), (5, 1), (6, 1)] [(0, (.const (.int .i64 37))), (6, (.tmp 22))], none⟩,
 ⟨some 6, .alloc 38 7 [(.int .i64 0), (.int .i64 0), (.string ⟨#[]⟩), (.int .i64 0), (.int .i64 0), (.int .i64 0), (.slice none 0 0)], none⟩,
 ⟨none, .store 7 (.tmp 6) (.tmp 23), none⟩])
 (.seq
 (.reg [⟨some 24, .build [(.int .i64 0), (.int .i64 0), (.string ⟨#[]⟩), (.int .i64 0), (.int .i64 0), (.int .i64 0), (.slice none 0 0)] [(0, 1), (1, 1), (2, 1), (3, 1), (4, 1), (5, 1), (6, 1)] [(0, (.const (.int .i64 28)))], none⟩,
 ⟨some 25, .load true 7 (.tmp 5), none⟩,
 ⟨some 26, .load true 7 (.tmp 5), none⟩,
 ⟨some 27, .bslice 38 7 [(.int .i64 0), (.int .i64 0), (.string ⟨#[]⟩), (.int .i64 0), (.int .i64 0), (.int .i64 0), (.slice none 0 0)] 3 [(0, (.tmp 24)), (1, (.tmp 25)), (2, (.tmp 26))], none⟩,
 ⟨some 28, .build [(.int .i64 0), (.int .i64 0), (.string ⟨#[]⟩), (.int .i64 0), (.int .i64 0), (.int .i64 0), (.slice none 0 0)] [(0, 1), (1, 1), (2, 1), (3, 1), (4, 1), (5, 1), (6, 1)] [(0, (.const (.int .i64 37))), (6, (.tmp 27))], none⟩,
 ⟨some 7, .alloc 38 7 [(.int .i64 0), (.int .i64 0), (.string ⟨#[]⟩), (.int .i64 0), (.int .i64 0), (.int .i64 0), (.slice none 0 0)], none⟩,
 ⟨none, .store 7 (.tmp 7) (.tmp 28), none⟩])
 (.seq
 (.reg [⟨some 29, .load true 7 (.tmp 1), none⟩,
 ⟨some 30, .call (.func 14) [(.tmp 29)], none⟩,
 ⟨some 8, .mov (.tmp 30), none⟩])
 (.seq
 (.reg [⟨some 31, .call (.func 13) [], none⟩,
 ⟨some 32, .mov (.tmp 31), none⟩,
 ⟨some 33, .load true 7 (.tmp 5), some (32, true)⟩,
 ⟨some 34, .call (.func 14) [(.tmp 33)], some (32, true)⟩,
 ⟨some 35, .mov (.tmp 8), some (32, true)⟩,
 ⟨some 36, .bin .eql .bool (.tmp 34) (.tmp 35), some (32, true)⟩,
 ⟨some 37, .pick (.tmp 32) (.tmp 36) (.const (.bool false)), none⟩,
 ⟨some 38, .mov (.tmp 37), none⟩,
 ⟨some 39, .load true 7 (.tmp 6), some (38, true)⟩,
 ⟨some 40, .call (.func 14) [(.tmp 39)], some (38, true)⟩,
 ⟨some 41, .un .not (.tmp 40), some (38, true)⟩,
 ⟨some 42, .pick (.tmp 38) (.tmp 41) (.const (.bool false)), none⟩,
 ⟨some 43, .mov (.tmp 42), none⟩,
 ⟨some 44, .load true 7 (.tmp 7), some (43, true)⟩,
 ⟨some 45, .call (.func 14) [(.tmp 44)], some (43, true)⟩,
 ⟨some 46, .mov (.tmp 8), some (43, true)⟩,
 ⟨some 47, .bin .eql .bool (.tmp 45) (.tmp 46), some (43, true)⟩,
 ⟨some 48, .pick (.tmp 43) (.tmp 47) (.const (.bool false)), none⟩,
 ⟨some 2, .mov (.tmp 48), none⟩])
 (.ret)))))))))
theorem fn4 : Fun Tryz.prog 4 49 ac4 [.tmp 2] := ⟨mixedD, Tryz.f4, _, Tryz.func4, rfl, by decide +kernel, rfl, by kernel_rfl, by kernel_rfl⟩
/- glossator/glossatorlaw2.DivergesMatchesReference -/
def ac5 : AC := .seq
 (.reg [⟨some 1, .box 38 7 (.tmp 0), none⟩,
 ⟨some 2, .mov (.const (.bool false)), none⟩])
 (.seq
 (.seq
 (.reg [⟨some 3, .call (.func 15) [], none⟩,
 ⟨some 4, .un .not (.tmp 3), none⟩])
 (.cond (.tmp 4)
 (.seq
 (.reg [⟨some 2, .mov (.const (.bool false)), none⟩])
 (.ret))
 (.skip)))
 (.seq
 (.dreg [⟨some 5, .load true 7 (.tmp 1), none⟩,
 ⟨some 6, .call (.func 14) [(.tmp 5)], none⟩,
 ⟨some 7, .load true 7 (.tmp 1), none⟩,
 ⟨some 8, .call (.func 16) [(.tmp 7)], none⟩,
 ⟨some 9, .bin .eql .bool (.tmp 6) (.tmp 8), none⟩,
 ⟨some 2, .mov (.tmp 9), none⟩]
 [[], [0], [], [2, 1], [1, 3], [4, 3, 0, 1, 2, 3, 4]]
 [[1], [5], [1], [7], [6, 8], [9]])
 (.ret)))
theorem fn5 : Fun Tryz.prog 5 10 ac5 [.tmp 2] := ⟨mixedD, Tryz.f5, _, Tryz.func5, rfl, by decide +kernel, rfl, by kernel_rfl, by kernel_rfl⟩
/- glossator/controlflow.Diverges -/
def ac14 : AC := .seq
 (.reg [⟨some 1, .box 38 7 (.tmp 0), none⟩,
 ⟨some 2, .mov (.const (.bool false)), none⟩])
 (.seq
 (.reg [⟨some 5, .faddr 6 (.tmp 1), none⟩,
 ⟨some 6, .load false 1 (.tmp 5), none⟩,
 ⟨some 3, .mov (.tmp 6), none⟩])
 (.seq
 (.reg [⟨some 7, .mov (.tmp 3), none⟩,
 ⟨some 8, .slen false (.tmp 7), none⟩,
 ⟨some 4, .mov (.tmp 8), none⟩])
 (.seq
 (.seq
 (.reg [⟨some 9, .faddr 0 (.tmp 1), none⟩,
 ⟨some 10, .load false 1 (.tmp 9), none⟩])
 (.block 0
 (.seq
 (.reg [⟨some 12, .bin .eql .int (.tmp 10) (.const (.int .i64 25)), none⟩,
 ⟨some 11, .mov (.tmp 12), none⟩])
 (.cond (.tmp 11)
 (.seq
 (.reg [⟨some 2, .mov (.const (.bool true)), none⟩])
 (.ret))
 (.seq
 (.reg [⟨some 14, .bin .eql .int (.tmp 10) (.const (.int .i64 26)), none⟩,
 ⟨some 13, .mov (.tmp 14), none⟩])
 (.cond (.tmp 13)
 (.seq
 (.reg [⟨some 15, .mov (.tmp 4), none⟩,
 ⟨some 16, .bin .gtr .int (.tmp 15) (.const (.int .i64 0)), none⟩,
 ⟨some 17, .mov (.tmp 16), none⟩,
 ⟨some 18, .mov (.tmp 3), some (17, true)⟩,
 ⟨some 19, .iaddr 7 (.tmp 18) (.const (.int .i64 0)), some (17, true)⟩,
 ⟨some 20, .load true 7 (.tmp 19), some (17, true)⟩,
 ⟨some 21, .call (.func 14) [(.tmp 20)], some (17, true)⟩,
 ⟨some 22, .pick (.tmp 17) (.tmp 21) (.const (.bool false)), none⟩,
 ⟨some 2, .mov (.tmp 22), none⟩])
 (.ret))
 (.seq
 (.reg [⟨some 24, .bin .eql .int (.tmp 10) (.const (.int .i64 21)), none⟩,
 ⟨some 23, .mov (.tmp 24), none⟩])
 (.cond (.tmp 23)
 (.seq
 (.reg [⟨some 25, .mov (.tmp 4), none⟩,
 ⟨some 26, .bin .gtr .int (.tmp 25) (.const (.int .i64 1)), none⟩,
 ⟨some 27, .mov (.tmp 26), none⟩,
 ⟨some 28, .mov (.tmp 3), some (27, true)⟩,
 ⟨some 29, .mov (.tmp 4), some (27, true)⟩,
 ⟨some 30, .bin .sub .int (.tmp 29) (.const (.int .i64 1)), some (27, true)⟩,
 ⟨some 31, .iaddr 7 (.tmp 28) (.tmp 30), some (27, true)⟩,
 ⟨some 32, .faddr 0 (.tmp 31), some (27, true)⟩,
 ⟨some 33, .load false 1 (.tmp 32), some (27, true)⟩,
 ⟨some 34, .bin .eql .int (.tmp 33) (.const (.int .i64 0)), some (27, true)⟩,
 ⟨some 35, .pick (.tmp 27) (.tmp 34) (.const (.bool false)), none⟩,
 ⟨some 36, .mov (.tmp 35), none⟩,
 ⟨some 37, .mov (.tmp 3), some (36, true)⟩,
 ⟨some 38, .mov (.tmp 4), some (36, true)⟩,
 ⟨some 39, .bin .sub .int (.tmp 38) (.const (.int .i64 2)), some (36, true)⟩,
 ⟨some 40, .iaddr 7 (.tmp 37) (.tmp 39), some (36, true)⟩,
 ⟨some 41, .load true 7 (.tmp 40), some (36, true)⟩,
 ⟨some 42, .call (.func 14) [(.tmp 41)], some (36, true)⟩,
 ⟨some 43, .pick (.tmp 36) (.tmp 42) (.const (.bool false)), none⟩,
 ⟨some 2, .mov (.tmp 43), none⟩])
 (.ret))
 (.seq
 (.reg [⟨some 45, .bin .eql .int (.tmp 10) (.const (.int .i64 37)), none⟩,
 ⟨some 44, .mov (.tmp 45), none⟩])
 (.cond (.tmp 44)
 (.seq
 (.reg [⟨some 46, .mov (.tmp 4), none⟩,
 ⟨some 47, .bin .gtr .int (.tmp 46) (.const (.int .i64 2)), none⟩,
 ⟨some 48, .mov (.tmp 47), none⟩,
 ⟨some 49, .mov (.tmp 3), some (48, true)⟩,
 ⟨some 50, .iaddr 7 (.tmp 49) (.const (.int .i64 1)), some (48, true)⟩,
 ⟨some 51, .load true 7 (.tmp 50), some (48, true)⟩,
 ⟨some 52, .call (.func 14) [(.tmp 51)], some (48, true)⟩,
 ⟨some 53, .pick (.tmp 48) (.tmp 52) (.const (.bool false)), none⟩,
 ⟨some 54, .mov (.tmp 53), none⟩,
 ⟨some 55, .mov (.tmp 3), some (54, true)⟩,
 ⟨some 56, .iaddr 7 (.tmp 55) (.const (.int .i64 2)), some (54, true)⟩,
 ⟨some 57, .load true 7 (.tmp 56), some (54, true)⟩,
 ⟨some 58, .call (.func 14) [(.tmp 57)], some (54, true)⟩,
 ⟨some 59, .pick (.tmp 54) (.tmp 58) (.const (.bool false)), none⟩,
 ⟨some 2, .mov (.tmp 59), none⟩])
 (.ret))
 (.seq
 (.reg [⟨some 61, .bin .eql .int (.tmp 10) (.const (.int .i64 35)), none⟩,
 ⟨some 60, .mov (.tmp 61), none⟩])
 (.cond (.tmp 60)
 (.seq
 (.reg [⟨some 62, .mov (.tmp 4), none⟩,
 ⟨some 63, .bin .gtr .int (.tmp 62) (.const (.int .i64 1)), none⟩,
 ⟨some 64, .mov (.tmp 63), none⟩,
 ⟨some 65, .mov (.tmp 3), some (64, true)⟩,
 ⟨some 66, .slice 7 (.tmp 65) (some (.const (.int .i64 1))) none none, some (64, true)⟩,
 ⟨some 67, .call (.func 36) [(.tmp 66), (.func 37)], some (64, true)⟩,
 ⟨some 68, .un .not (.tmp 67), some (64, true)⟩,
 ⟨some 69, .pick (.tmp 64) (.tmp 68) (.const (.bool false)), none⟩,
 ⟨some 2, .mov (.tmp 69), none⟩])
 (.ret))
 (.skip)))))))))))))
 (.seq
 (.reg [⟨some 2, .mov (.const (.bool false)), none⟩])
 (.ret)))))
theorem fn14 : Fun Tryz.prog 14 70 ac14 [.tmp 2] := ⟨mixedD, Tryz.f14, _, Tryz.func14, rfl, by decide +kernel, rfl, by kernel_rfl, by kernel_rfl⟩
/- glossator/glossatorref2.NeverCompletes -/
def ac16_l0 : AC := .seq
 (.reg [⟨some 58, .bin .lss .int (.tmp 57) (.tmp 56), none⟩])
 (.seq
 (.cond (.tmp 58)
 (.skip)
 (.exit 1))
 (.seq
 (.block 2
 (.seq
 (.reg [⟨some 59, .iaddr 7 (.tmp 55) (.tmp 57), none⟩,
 ⟨some 60, .load true 7 (.tmp 59), none⟩,
 ⟨some 6, .alloc 38 7 [(.int .i64 0), (.int .i64 0), (.string ⟨#[]⟩), (.int .i64 0), (.int .i64 0), (.int .i64 0), (.slice none 0 0)], none⟩,
 ⟨none, .store 7 (.tmp 6) (.tmp 60), none⟩])
 (.seq
 (.reg [⟨some 61, .faddr 0 (.tmp 6), none⟩,
 ⟨some 62, .load false 1 (.tmp 61), none⟩,
 ⟨some 63, .bin .neq .int (.tmp 62) (.const (.int .i64 36)), none⟩,
 ⟨some 64, .mov (.tmp 63), none⟩,
 ⟨some 65, .faddr 6 (.tmp 6), some (64, false)⟩,
 ⟨some 66, .load false 1 (.tmp 65), some (64, false)⟩,
 ⟨some 67, .slen false (.tmp 66), some (64, false)⟩,
 ⟨some 68, .bin .lss .int (.tmp 67) (.const (.int .i64 2)), some (64, false)⟩,
 ⟨some 69, .pick (.tmp 64) (.const (.bool true)) (.tmp 68), none⟩,
 ⟨some 70, .mov (.tmp 69), none⟩,
 ⟨some 71, .faddr 6 (.tmp 6), some (70, false)⟩,
 ⟨some 72, .load false 1 (.tmp 71), some (70, false)⟩,
 ⟨some 73, .iaddr 7 (.tmp 72) (.const (.int .i64 1)), some (70, false)⟩,
 ⟨some 74, .load true 7 (.tmp 73), some (70, false)⟩,
 ⟨some 75, .call (.func 16) [(.tmp 74)], some (70, false)⟩,
 ⟨some 76, .un .not (.tmp 75), some (70, false)⟩,
 ⟨some 77, .pick (.tmp 70) (.const (.bool true)) (.tmp 76), none⟩])
 (.cond (.tmp 77)
 (.seq
 (.reg [⟨some 2, .mov (.const (.bool false)), none⟩])
 (.ret))
 (.skip)))))
 (.reg [⟨some 78, .bin .add .int (.tmp 57) (.const (.int .i64 1)), none⟩,
 ⟨some 57, .mov (.tmp 78), none⟩])))
def ac16 : AC := .seq
 (.reg [⟨some 1, .box 38 7 (.tmp 0), none⟩,
 ⟨some 2, .mov (.const (.bool false)), none⟩])
 (.seq
 (.reg [⟨some 7, .mkfn 38 [(.tmp 1)], none⟩,
 ⟨some 3, .mov (.tmp 7), none⟩])
 (.seq
 (.reg [⟨some 8, .faddr 6 (.tmp 1), none⟩,
 ⟨some 9, .load false 1 (.tmp 8), none⟩,
 ⟨some 10, .slen false (.tmp 9), none⟩,
 ⟨some 11, .bin .sub .int (.tmp 10) (.const (.int .i64 1)), none⟩,
 ⟨some 4, .mov (.tmp 11), none⟩])
 (.seq
 (.seq
 (.reg [⟨some 12, .faddr 0 (.tmp 1), none⟩,
 ⟨some 13, .load false 1 (.tmp 12), none⟩])
 (.block 0
 (.seq
 (.reg [⟨some 15, .bin .eql .int (.tmp 13) (.const (.int .i64 25)), none⟩,
 ⟨some 14, .mov (.tmp 15), none⟩])
 (.cond (.tmp 14)
 (.seq
 (.reg [⟨some 2, .mov (.const (.bool true)), none⟩])
 (.ret))
 (.seq
 (.reg [⟨some 17, .bin .eql .int (.tmp 13) (.const (.int .i64 26)), none⟩,
 ⟨some 16, .mov (.tmp 17), none⟩])
 (.cond (.tmp 16)
 (.seq
 (.reg [⟨some 18, .mov (.tmp 3), none⟩,
 ⟨some 19, .call (.tmp 18) [(.const (.int .i64 0))], none⟩,
 ⟨some 2, .mov (.tmp 19), none⟩])
 (.ret))
 (.seq
 (.reg [⟨some 21, .bin .eql .int (.tmp 13) (.const (.int .i64 21)), none⟩,
 ⟨some 20, .mov (.tmp 21), none⟩])
 (.cond (.tmp 20)
 (.seq
 (.reg [⟨some 22, .mov (.tmp 4), none⟩,
 ⟨some 23, .bin .geq .int (.tmp 22) (.const (.int .i64 1)), none⟩,
 ⟨some 24, .mov (.tmp 23), none⟩,
 ⟨some 25, .faddr 6 (.tmp 1), some (24, true)⟩,
 ⟨some 26, .load false 1 (.tmp 25), some (24, true)⟩,
 ⟨some 27, .mov (.tmp 4), some (24, true)⟩,
 ⟨some 28, .iaddr 7 (.tmp 26) (.tmp 27), some (24, true)⟩,
 ⟨some 29, .faddr 0 (.tmp 28), some (24, true)⟩,
 ⟨some 30, .load false 1 (.tmp 29), some (24, true)⟩,
 ⟨some 31, .bin .eql .int (.tmp 30) (.const (.int .i64 0)), some (24, true)⟩,
 ⟨some 32, .pick (.tmp 24) (.tmp 31) (.const (.bool false)), none⟩,
 ⟨some 33, .mov (.tmp 32), none⟩,
 ⟨some 34, .mov (.tmp 3), some (33, true)⟩,
 ⟨some 35, .mov (.tmp 4), some (33, true)⟩,
 ⟨some 36, .bin .sub .int (.tmp 35) (.const (.int .i64 1)), some (33, true)⟩,
 ⟨some 37, .call (.tmp 34) [(.tmp 36)], some (33, true)⟩,
 ⟨some 38, .pick (.tmp 33) (.tmp 37) (.const (.bool false)), none⟩,
 ⟨some 2, .mov (.tmp 38), none⟩])
 (.ret))
 (.seq
 (.reg [⟨some 40, .bin .eql .int (.tmp 13) (.const (.int .i64 37)), none⟩,
 ⟨some 39, .mov (.tmp 40), none⟩])
 (.cond (.tmp 39)
 (.seq
 (.reg [⟨some 41, .mov (.tmp 3), none⟩,
 ⟨some 42, .call (.tmp 41) [(.const (.int .i64 1))], none⟩,
 ⟨some 43, .mov (.tmp 42), none⟩,
 ⟨some 44, .mov (.tmp 3), some (43, true)⟩,
 ⟨some 45, .call (.tmp 44) [(.const (.int .i64 2))], some (43, true)⟩,
 ⟨some 46, .pick (.tmp 43) (.tmp 45) (.const (.bool false)), none⟩,
 ⟨some 2, .mov (.tmp 46), none⟩])
 (.ret))
 (.seq
 (.reg [⟨some 48, .bin .eql .int (.tmp 13) (.const (.int .i64 35)), none⟩,
 ⟨some 47, .mov (.tmp 48), none⟩])
 (.cond (.tmp 47)
 (.seq
 (.seq
 (.reg [⟨some 49, .faddr 6 (.tmp 1), none⟩,
 ⟨some 50, .load false 1 (.tmp 49), none⟩,
 ⟨some 51, .faddr 6 (.tmp 1), none⟩,
 ⟨some 52, .load false 1 (.tmp 51), none⟩,
 ⟨some 53, .slen false (.tmp 52), none⟩,
 ⟨some 54, .minmax true (.const (.int .i64 1)) (.tmp 53), none⟩,
 ⟨some 55, .slice 7 (.tmp 50) (some (.tmp 54)) none none, none⟩,
 ⟨some 56, .slen false (.tmp 55), none⟩,
 ⟨some 57, .mov (.const (.int .i64 0)), none⟩])
 (.block 1
 (.loop ac16_l0)))
 (.seq
 (.reg [⟨some 79, .mov (.tmp 4), none⟩,
 ⟨some 80, .bin .geq .int (.tmp 79) (.const (.int .i64 1)), none⟩,
 ⟨some 2, .mov (.tmp 80), none⟩])
 (.ret)))
 (.skip)))))))))))))
 (.seq
 (.reg [⟨some 2, .mov (.const (.bool false)), none⟩])
 (.ret)))))
theorem fn16 : Fun Tryz.prog 16 81 ac16 [.tmp 2] := ⟨mixedD, Tryz.f16, _, Tryz.func16, rfl, by decide +kernel, rfl, by kernel_rfl, by kernel_rfl⟩
/- slices.ContainsFunc[[]glossator/api.Node,glossator/api.Node] -/
def ac36 : AC := .seq
 (.reg [⟨some 4, .mov (.const (.bool false)), none⟩])
 (.seq
 (.reg [⟨some 5, .mov (.tmp 0), none⟩,
 ⟨some 6, .mov (.tmp 1), none⟩,
 ⟨some 7, .call (.func 83) [(.tmp 5), (.tmp 6)], none⟩,
 ⟨some 8, .bin .geq .int (.tmp 7) (.const (.int .i64 0)), none⟩,
 ⟨some 4, .mov (.tmp 8), none⟩])
 (.ret))
theorem fn36 : Fun Tryz.prog 36 9 ac36 [.tmp 4] := ⟨mixedD, Tryz.f36, _, Tryz.func36, rfl, by decide +kernel, rfl, by kernel_rfl, by kernel_rfl⟩
/- glossator/controlflow.Diverges$1 -/
def ac37 : AC := .seq
 (.reg [⟨some 1, .box 38 7 (.tmp 0), none⟩,
 ⟨some 2, .mov (.const (.bool false)), none⟩])
 (.seq
 (.reg [⟨some 3, .faddr 0 (.tmp 1), none⟩,
 ⟨some 4, .load false 1 (.tmp 3), none⟩,
 ⟨some 5, .bin .neq .int (.tmp 4) (.const (.int .i64 36)), none⟩,
 ⟨some 6, .mov (.tmp 5), none⟩,
 ⟨some 7, .faddr 6 (.tmp 1), some (6, false)⟩,
 ⟨some 8, .load false 1 (.tmp 7), some (6, false)⟩,
 ⟨some 9, .slen false (.tmp 8), some (6, false)⟩,
 ⟨some 10, .bin .lss .int (.tmp 9) (.const (.int .i64 2)), some (6, false)⟩,
 ⟨some 11, .pick (.tmp 6) (.const (.bool true)) (.tmp 10), none⟩,
 ⟨some 12, .mov (.tmp 11), none⟩,
 ⟨some 13, .faddr 6 (.tmp 1), some (12, false)⟩,
 ⟨some 14, .load false 1 (.tmp 13), some (12, false)⟩,
 ⟨some 15, .iaddr 7 (.tmp 14) (.const (.int .i64 1)), some (12, false)⟩,
 ⟨some 16, .load true 7 (.tmp 15), some (12, false)⟩,
 ⟨some 17, .call (.func 14) [(.tmp 16)], some (12, false)⟩,
 ⟨some 18, .un .not (.tmp 17), some (12, false)⟩,
 ⟨some 19, .pick (.tmp 12) (.const (.bool true)) (.tmp 18), none⟩,
 ⟨some 2, .mov (.tmp 19), none⟩])
 (.ret))
theorem fn37 : Fun Tryz.prog 37 20 ac37 [.tmp 2] := ⟨mixedD, Tryz.f37, _, Tryz.func37, rfl, by decide +kernel, rfl, by kernel_rfl, by kernel_rfl⟩
/- glossator/glossatorref2.NeverCompletes$1 -/
def ac38 : AC := .seq
 (.reg [⟨some 3, .mov (.const (.bool false)), none⟩])
 (.seq
 (.reg [⟨some 4, .mov (.tmp 0), none⟩,
 ⟨some 5, .bin .geq .int (.tmp 4) (.const (.int .i64 0)), none⟩,
 ⟨some 6, .mov (.tmp 5), none⟩,
 ⟨some 7, .mov (.tmp 0), some (6, true)⟩,
 ⟨some 8, .faddr 6 (.tmp 1), some (6, true)⟩,
 ⟨some 9, .load false 1 (.tmp 8), some (6, true)⟩,
 ⟨some 10, .slen false (.tmp 9), some (6, true)⟩,
 ⟨some 11, .bin .lss .int (.tmp 7) (.tmp 10), some (6, true)⟩,
 ⟨some 12, .pick (.tmp 6) (.tmp 11) (.const (.bool false)), none⟩,
 ⟨some 13, .mov (.tmp 12), none⟩,
 ⟨some 14, .faddr 6 (.tmp 1), some (13, true)⟩,
 ⟨some 15, .load false 1 (.tmp 14), some (13, true)⟩,
 ⟨some 16, .mov (.tmp 0), some (13, true)⟩,
 ⟨some 17, .iaddr 7 (.tmp 15) (.tmp 16), some (13, true)⟩,
 ⟨some 18, .load true 7 (.tmp 17), some (13, true)⟩,
 ⟨some 19, .call (.func 16) [(.tmp 18)], some (13, true)⟩,
 ⟨some 20, .pick (.tmp 13) (.tmp 19) (.const (.bool false)), none⟩,
 ⟨some 3, .mov (.tmp 20), none⟩])
 (.ret))
theorem fn38 : Fun Tryz.prog 38 21 ac38 [.tmp 3] := ⟨mixedD, Tryz.f38, _, Tryz.func38, rfl, by decide +kernel, rfl, by kernel_rfl, by kernel_rfl⟩
/- slices.IndexFunc[[]glossator/api.Node,glossator/api.Node] -/
def ac83_l0 : AC := .seq
 (.reg [⟨some 9, .bin .lss .int (.tmp 8) (.tmp 7), none⟩])
 (.seq
 (.cond (.tmp 9)
 (.skip)
 (.exit 0))
 (.seq
 (.block 1
 (.seq
 (.reg [⟨some 10, .mov (.tmp 8), none⟩,
 ⟨some 5, .mov (.tmp 10), none⟩])
 (.seq
 (.reg [⟨some 11, .mov (.tmp 1), none⟩,
 ⟨some 12, .mov (.tmp 0), none⟩,
 ⟨some 13, .mov (.tmp 5), none⟩,
 ⟨some 14, .iaddr 7 (.tmp 12) (.tmp 13), none⟩,
 ⟨some 15, .load true 7 (.tmp 14), none⟩,
 ⟨some 16, .call (.tmp 11) [(.tmp 15)], none⟩])
 (.cond (.tmp 16)
 (.seq
 (.reg [⟨some 17, .mov (.tmp 5), none⟩,
 ⟨some 4, .mov (.tmp 17), none⟩])
 (.ret))
 (.skip)))))
 (.reg [⟨some 18, .bin .add .int (.tmp 8) (.const (.int .i64 1)), none⟩,
 ⟨some 8, .mov (.tmp 18), none⟩])))
def ac83 : AC := .seq
 (.reg [⟨some 4, .mov (.const (.int .i64 0)), none⟩])
 (.seq
 (.seq
 (.reg [⟨some 6, .mov (.tmp 0), none⟩,
 ⟨some 7, .slen false (.tmp 6), none⟩,
 ⟨some 8, .mov (.const (.int .i64 0)), none⟩])
 (.block 0
 (.loop ac83_l0)))
 (.seq
 (.reg [⟨some 4, .mov (.const (.int .i64 (-1))), none⟩])
 (.ret)))
theorem fn83 : Fun Tryz.prog 83 19 ac83 [.tmp 4] := ⟨mixedD, Tryz.f83, _, Tryz.func83, rfl, by decide +kernel, rfl, by kernel_rfl, by kernel_rfl⟩
end Go.Proofs.YtckjkdhmljfeeaaGreatDoor
