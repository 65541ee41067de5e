/- The compact texts of the functions, printed by a program of mine (wip/tools/PrintFn.lean); each is shown to be what the translation compiles to. -/
import Derived.Test.YtgphapkpoamcgaaDoorK2
import Derived.Test.YtgphapkpoamcgaaDoorProg
set_option maxRecDepth 100000
namespace Go.Proofs.YtgphapkpoamcgaaDoor
open Go Go.Ab
theorem mixedP : Tryd.prog.follows .mixedOrders = true := by kernel_rfl
/- glossator/glossatorlaw1.PositionReference -/
def ac3 : AC := .seq
 (.reg [⟨some 5, .box 23 2 (.tmp 2), none⟩,
 ⟨some 6, .mov (.const (.bool false)), none⟩])
 (.seq
 (.seq
 (.reg [⟨some 13, .call (.func 4) [], none⟩,
 ⟨some 14, .un .not (.tmp 13), none⟩])
 (.cond (.tmp 14)
 (.seq
 (.reg [⟨some 6, .mov (.const (.bool false)), none⟩])
 (.ret))
 (.skip)))
 (.seq
 (.reg [⟨some 15, .mov (.tmp 0), none⟩,
 ⟨some 16, .call (.func 5) [(.tmp 15), (.const (.int .i64 300))], none⟩,
 ⟨some 0, .mov (.tmp 16), none⟩])
 (.seq
 (.seq
 (.reg [⟨some 17, .mov (.tmp 0), none⟩,
 ⟨some 18, .call (.func 7) [(.tmp 17)], none⟩,
 ⟨some 19, .mov (.tmp 0), none⟩,
 ⟨some 20, .call (.func 8) [(.tmp 19)], none⟩,
 ⟨some 21, .call (.func 6) [(.tmp 18), (.tmp 20)], none⟩,
 ⟨some 22, .un .not (.tmp 21), none⟩])
 (.cond (.tmp 22)
 (.seq
 (.reg [⟨some 6, .mov (.const (.bool false)), none⟩])
 (.ret))
 (.skip)))
 (.seq
 (.reg [⟨some 24, .mov (.tmp 0), none⟩,
 ⟨some 25, .mov (.tmp 1), none⟩,
 ⟨some 26, .call (.func 9) [(.tmp 24), (.tmp 25)], none⟩,
 ⟨some 23, .mov (.tmp 26), none⟩,
 ⟨some 27, .ext (.tmp 23) 0, none⟩,
 ⟨some 28, .ext (.tmp 23) 1, none⟩,
 ⟨some 7, .alloc 23 2 [(.int .i64 0), (.int .i64 0)], none⟩,
 ⟨none, .store 2 (.tmp 7) (.tmp 27), none⟩,
 ⟨some 8, .mov (.tmp 28), none⟩])
 (.seq
 (.reg [⟨some 30, .mov (.tmp 0), none⟩,
 ⟨some 31, .mov (.tmp 1), none⟩,
 ⟨some 32, .call (.func 10) [(.tmp 30), (.tmp 31), (.const (.bool true))], none⟩,
 ⟨some 29, .mov (.tmp 32), none⟩,
 ⟨some 33, .ext (.tmp 29) 0, none⟩,
 ⟨some 34, .ext (.tmp 29) 1, none⟩,
 ⟨some 9, .alloc 23 2 [(.int .i64 0), (.int .i64 0)], none⟩,
 ⟨none, .store 2 (.tmp 9) (.tmp 33), none⟩,
 ⟨some 10, .mov (.tmp 34), none⟩])
 (.seq
 (.seq
 (.reg [⟨some 35, .load true 2 (.tmp 7), none⟩,
 ⟨some 36, .load true 2 (.tmp 9), none⟩,
 ⟨some 37, .bin .neq (.flat [.int, .int]) (.tmp 35) (.tmp 36), none⟩,
 ⟨some 38, .mov (.tmp 37), none⟩,
 ⟨some 39, .mov (.tmp 8), some (38, false)⟩,
 ⟨some 40, .mov (.tmp 10), some (38, false)⟩,
 ⟨some 41, .bin .neq .int (.tmp 39) (.tmp 40), some (38, false)⟩,
 ⟨some 42, .pick (.tmp 38) (.const (.bool true)) (.tmp 41), none⟩])
 (.cond (.tmp 42)
 (.seq
 (.reg [⟨some 6, .mov (.const (.bool false)), none⟩])
 (.ret))
 (.skip)))
 (.seq
 (.reg [⟨some 44, .mov (.tmp 0), none⟩,
 ⟨some 45, .mov (.tmp 1), none⟩,
 ⟨some 46, .call (.func 11) [(.tmp 44), (.tmp 45)], none⟩,
 ⟨some 43, .mov (.tmp 46), none⟩,
 ⟨some 47, .ext (.tmp 43) 0, none⟩,
 ⟨some 48, .ext (.tmp 43) 1, none⟩,
 ⟨none, .store 2 (.tmp 7) (.tmp 47), none⟩,
 ⟨some 8, .mov (.tmp 48), none⟩])
 (.seq
 (.reg [⟨some 50, .mov (.tmp 0), none⟩,
 ⟨some 51, .mov (.tmp 1), none⟩,
 ⟨some 52, .call (.func 10) [(.tmp 50), (.tmp 51), (.const (.bool false))], none⟩,
 ⟨some 49, .mov (.tmp 52), none⟩,
 ⟨some 53, .ext (.tmp 49) 0, none⟩,
 ⟨some 54, .ext (.tmp 49) 1, none⟩,
 ⟨none, .store 2 (.tmp 9) (.tmp 53), none⟩,
 ⟨some 10, .mov (.tmp 54), none⟩])
 (.seq
 (.seq
 (.reg [⟨some 55, .load true 2 (.tmp 7), none⟩,
 ⟨some 56, .load true 2 (.tmp 9), none⟩,
 ⟨some 57, .bin .neq (.flat [.int, .int]) (.tmp 55) (.tmp 56), none⟩,
 ⟨some 58, .mov (.tmp 57), none⟩,
 ⟨some 59, .mov (.tmp 8), some (58, false)⟩,
 ⟨some 60, .mov (.tmp 10), some (58, false)⟩,
 ⟨some 61, .bin .neq .int (.tmp 59) (.tmp 60), some (58, false)⟩,
 ⟨some 62, .pick (.tmp 58) (.const (.bool true)) (.tmp 61), none⟩])
 (.cond (.tmp 62)
 (.seq
 (.reg [⟨some 6, .mov (.const (.bool false)), none⟩])
 (.ret))
 (.skip)))
 (.seq
 (.reg [⟨some 64, .mov (.tmp 0), none⟩,
 ⟨some 65, .load true 2 (.tmp 5), none⟩,
 ⟨some 66, .call (.func 12) [(.tmp 64), (.tmp 65)], none⟩,
 ⟨some 63, .mov (.tmp 66), none⟩,
 ⟨some 67, .ext (.tmp 63) 0, none⟩,
 ⟨some 68, .ext (.tmp 63) 1, none⟩,
 ⟨some 11, .mov (.tmp 67), none⟩,
 ⟨some 8, .mov (.tmp 68), none⟩])
 (.seq
 (.reg [⟨some 70, .mov (.tmp 0), none⟩,
 ⟨some 71, .load true 2 (.tmp 5), none⟩,
 ⟨some 72, .call (.func 13) [(.tmp 70), (.tmp 71), (.const (.bool true))], none⟩,
 ⟨some 69, .mov (.tmp 72), none⟩,
 ⟨some 73, .ext (.tmp 69) 0, none⟩,
 ⟨some 74, .ext (.tmp 69) 1, none⟩,
 ⟨some 12, .mov (.tmp 73), none⟩,
 ⟨some 10, .mov (.tmp 74), none⟩])
 (.seq
 (.seq
 (.reg [⟨some 75, .mov (.tmp 11), none⟩,
 ⟨some 76, .mov (.tmp 12), none⟩,
 ⟨some 77, .bin .neq .int (.tmp 75) (.tmp 76), none⟩,
 ⟨some 78, .mov (.tmp 77), none⟩,
 ⟨some 79, .mov (.tmp 8), some (78, false)⟩,
 ⟨some 80, .mov (.tmp 10), some (78, false)⟩,
 ⟨some 81, .bin .neq .int (.tmp 79) (.tmp 80), some (78, false)⟩,
 ⟨some 82, .pick (.tmp 78) (.const (.bool true)) (.tmp 81), none⟩])
 (.cond (.tmp 82)
 (.seq
 (.reg [⟨some 6, .mov (.const (.bool false)), none⟩])
 (.ret))
 (.skip)))
 (.seq
 (.reg [⟨some 84, .mov (.tmp 0), none⟩,
 ⟨some 85, .load true 2 (.tmp 5), none⟩,
 ⟨some 86, .call (.func 14) [(.tmp 84), (.tmp 85)], none⟩,
 ⟨some 83, .mov (.tmp 86), none⟩,
 ⟨some 87, .ext (.tmp 83) 0, none⟩,
 ⟨some 88, .ext (.tmp 83) 1, none⟩,
 ⟨some 11, .mov (.tmp 87), none⟩,
 ⟨some 8, .mov (.tmp 88), none⟩])
 (.seq
 (.reg [⟨some 90, .mov (.tmp 0), none⟩,
 ⟨some 91, .load true 2 (.tmp 5), none⟩,
 ⟨some 92, .call (.func 13) [(.tmp 90), (.tmp 91), (.const (.bool false))], none⟩,
 ⟨some 89, .mov (.tmp 92), none⟩,
 ⟨some 93, .ext (.tmp 89) 0, none⟩,
 ⟨some 94, .ext (.tmp 89) 1, none⟩,
 ⟨some 12, .mov (.tmp 93), none⟩,
 ⟨some 10, .mov (.tmp 94), none⟩])
 (.seq
 (.reg [⟨some 95, .mov (.tmp 11), none⟩,
 ⟨some 96, .mov (.tmp 12), none⟩,
 ⟨some 97, .bin .eql .int (.tmp 95) (.tmp 96), none⟩,
 ⟨some 98, .mov (.tmp 97), none⟩,
 ⟨some 99, .mov (.tmp 8), some (98, true)⟩,
 ⟨some 100, .mov (.tmp 10), some (98, true)⟩,
 ⟨some 101, .bin .eql .int (.tmp 99) (.tmp 100), some (98, true)⟩,
 ⟨some 102, .pick (.tmp 98) (.tmp 101) (.const (.bool false)), none⟩,
 ⟨some 6, .mov (.tmp 102), none⟩])
 (.ret))))))))))))))))
theorem fn3 : Fun Tryd.prog 3 103 ac3 [.tmp 6] := ⟨mixedP, Tryd.f3, _, Tryd.func3, rfl, by decide +kernel, rfl, by kernel_rfl, by kernel_rfl⟩
/- glossator/glossatorlaw1.positionExample -/
def ac4 : AC := .seq
 (.reg [⟨some 0, .mov (.const (.bool false)), none⟩])
 (.seq
 (.reg [⟨some 6, .call (.func 9) [(.const (.string ⟨#[97, 10, 240, 159, 152, 128, 98]⟩)), (.const (.int .i64 6))], none⟩,
 ⟨some 5, .mov (.tmp 6), none⟩,
 ⟨some 7, .ext (.tmp 5) 0, none⟩,
 ⟨some 8, .ext (.tmp 5) 1, none⟩,
 ⟨some 1, .alloc 23 2 [(.int .i64 0), (.int .i64 0)], none⟩,
 ⟨none, .store 2 (.tmp 1) (.tmp 7), none⟩,
 ⟨some 2, .mov (.tmp 8), none⟩])
 (.seq
 (.reg [⟨some 10, .build [(.int .i64 0), (.int .i64 0)] [(0, 1), (1, 1)] [(0, (.const (.int .i64 1))), (1, (.const (.int .i64 1)))], none⟩,
 ⟨some 11, .call (.func 12) [(.const (.string ⟨#[97, 10, 240, 159, 152, 128, 98]⟩)), (.tmp 10)], none⟩,
 ⟨some 9, .mov (.tmp 11), none⟩,
 ⟨some 12, .ext (.tmp 9) 0, none⟩,
 ⟨some 13, .ext (.tmp 9) 1, none⟩,
 ⟨some 3, .mov (.tmp 12), none⟩,
 ⟨some 4, .mov (.tmp 13), none⟩])
 (.seq
 (.reg [⟨some 14, .load true 2 (.tmp 1), none⟩,
 ⟨some 15, .build [(.int .i64 0), (.int .i64 0)] [(0, 1), (1, 1)] [(0, (.const (.int .i64 1))), (1, (.const (.int .i64 2)))], none⟩,
 ⟨some 16, .bin .eql (.flat [.int, .int]) (.tmp 14) (.tmp 15), none⟩,
 ⟨some 17, .mov (.tmp 16), none⟩,
 ⟨some 18, .mov (.tmp 2), some (17, true)⟩,
 ⟨some 19, .bin .eql .int (.tmp 18) (.const (.int .i64 0)), some (17, true)⟩,
 ⟨some 20, .pick (.tmp 17) (.tmp 19) (.const (.bool false)), none⟩,
 ⟨some 21, .mov (.tmp 20), none⟩,
 ⟨some 22, .mov (.tmp 3), some (21, true)⟩,
 ⟨some 23, .bin .eql .int (.tmp 22) (.const (.int .i64 0)), some (21, true)⟩,
 ⟨some 24, .pick (.tmp 21) (.tmp 23) (.const (.bool false)), none⟩,
 ⟨some 25, .mov (.tmp 24), none⟩,
 ⟨some 26, .mov (.tmp 4), some (25, true)⟩,
 ⟨some 27, .bin .eql .int (.tmp 26) (.const (.int .i64 3)), some (25, true)⟩,
 ⟨some 28, .pick (.tmp 25) (.tmp 27) (.const (.bool false)), none⟩,
 ⟨some 0, .mov (.tmp 28), none⟩])
 (.ret))))
theorem fn4 : Fun Tryd.prog 4 29 ac4 [.tmp 0] := ⟨mixedP, Tryd.f4, _, Tryd.func4, rfl, by decide +kernel, rfl, by kernel_rfl, by kernel_rfl⟩
/- glossator/glossatorlaw1.short -/
def ac5 : AC := .seq
 (.reg [⟨some 4, .mov (.const (.string ⟨#[]⟩)), none⟩])
 (.seq
 (.reg [⟨some 5, .mov (.tmp 0), none⟩,
 ⟨some 6, .mov (.tmp 0), none⟩,
 ⟨some 7, .slen true (.tmp 6), none⟩,
 ⟨some 8, .mov (.tmp 1), none⟩,
 ⟨some 9, .minmax true (.tmp 7) (.tmp 8), none⟩,
 ⟨some 10, .sslice (.tmp 5) none (some (.tmp 9)), none⟩,
 ⟨some 4, .mov (.tmp 10), none⟩])
 (.ret))
theorem fn5 : Fun Tryd.prog 5 11 ac5 [.tmp 4] := ⟨mixedP, Tryd.f5, _, Tryd.func5, rfl, by decide +kernel, rfl, by kernel_rfl, by kernel_rfl⟩
/- glossator/glossatorref1.EqualLists[int] -/
def ac6_l0 : AC := .seq
 (.reg [⟨some 14, .bin .lss .int (.tmp 13) (.tmp 12), none⟩])
 (.seq
 (.cond (.tmp 14)
 (.skip)
 (.exit 0))
 (.seq
 (.block 1
 (.seq
 (.reg [⟨some 15, .mov (.tmp 13), none⟩,
 ⟨some 5, .mov (.tmp 15), none⟩])
 (.seq
 (.dreg [⟨some 16, .mov (.tmp 0), none⟩,
 ⟨some 17, .mov (.tmp 5), none⟩,
 ⟨some 18, .iaddr 1 (.tmp 16) (.tmp 17), none⟩,
 ⟨some 19, .load false 1 (.tmp 18), none⟩,
 ⟨some 20, .mov (.tmp 1), none⟩,
 ⟨some 21, .mov (.tmp 5), none⟩,
 ⟨some 22, .iaddr 1 (.tmp 20) (.tmp 21), none⟩,
 ⟨some 23, .load false 1 (.tmp 22), none⟩,
 ⟨some 24, .bin .neq .int (.tmp 19) (.tmp 23), none⟩]
 [[], [], [0, 1], [2], [], [], [4, 5], [6], [3, 7]]
 [[0], [5], [16, 17], [18], [1], [5], [20, 21], [22], [19, 23]])
 (.cond (.tmp 24)
 (.seq
 (.reg [⟨some 4, .mov (.const (.bool false)), none⟩])
 (.ret))
 (.skip)))))
 (.reg [⟨some 25, .bin .add .int (.tmp 13) (.const (.int .i64 1)), none⟩,
 ⟨some 13, .mov (.tmp 25), none⟩])))
def ac6 : AC := .seq
 (.reg [⟨some 4, .mov (.const (.bool false)), none⟩])
 (.seq
 (.seq
 (.reg [⟨some 6, .mov (.tmp 0), none⟩,
 ⟨some 7, .slen false (.tmp 6), none⟩,
 ⟨some 8, .mov (.tmp 1), none⟩,
 ⟨some 9, .slen false (.tmp 8), none⟩,
 ⟨some 10, .bin .neq .int (.tmp 7) (.tmp 9), none⟩])
 (.cond (.tmp 10)
 (.seq
 (.reg [⟨some 4, .mov (.const (.bool false)), none⟩])
 (.ret))
 (.skip)))
 (.seq
 (.seq
 (.reg [⟨some 11, .mov (.tmp 0), none⟩,
 ⟨some 12, .slen false (.tmp 11), none⟩,
 ⟨some 13, .mov (.const (.int .i64 0)), none⟩])
 (.block 0
 (.loop ac6_l0)))
 (.seq
 (.reg [⟨some 4, .mov (.const (.bool true)), none⟩])
 (.ret))))
theorem fn6 : Fun Tryd.prog 6 26 ac6 [.tmp 4] := ⟨mixedP, Tryd.f6, _, Tryd.func6, rfl, by decide +kernel, rfl, by kernel_rfl, by kernel_rfl⟩
/- glossator/position.LineStarts -/
def ac7_l0 : AC := .seq
 (.reg [⟨some 9, .bin .lss .int (.tmp 8) (.tmp 7), none⟩])
 (.seq
 (.cond (.tmp 9)
 (.skip)
 (.exit 0))
 (.seq
 (.block 1
 (.seq
 (.reg [⟨some 10, .mov (.tmp 8), none⟩,
 ⟨some 4, .mov (.tmp 10), none⟩])
 (.seq
 (.reg [⟨some 11, .mov (.tmp 0), none⟩,
 ⟨some 12, .mov (.tmp 4), none⟩,
 ⟨some 13, .sindex (.tmp 11) (.tmp 12), none⟩,
 ⟨some 14, .bin .eql .int (.tmp 13) (.const (.int .u8 10)), none⟩])
 (.cond (.tmp 14)
 (.reg [⟨some 15, .mov (.tmp 3), none⟩,
 ⟨some 16, .mov (.tmp 4), none⟩,
 ⟨some 17, .bin .add .int (.tmp 16) (.const (.int .i64 1)), none⟩,
 ⟨some 18, .bslice 3 1 [(.int .i64 0)] 1 [(0, (.tmp 17))], none⟩,
 ⟨some 19, .app 3 1 (.tmp 15) (.tmp 18), none⟩,
 ⟨some 3, .mov (.tmp 19), none⟩])
 (.skip)))))
 (.reg [⟨some 20, .bin .add .int (.tmp 8) (.const (.int .i64 1)), none⟩,
 ⟨some 8, .mov (.tmp 20), none⟩])))
def ac7 : AC := .seq
 (.reg [⟨some 2, .mov (.const (.slice none 0 0)), none⟩])
 (.seq
 (.reg [⟨some 5, .bslice 3 1 [(.int .i64 0)] 1 [(0, (.const (.int .i64 0)))], none⟩,
 ⟨some 3, .mov (.tmp 5), none⟩])
 (.seq
 (.seq
 (.reg [⟨some 6, .mov (.tmp 0), none⟩,
 ⟨some 7, .slen true (.tmp 6), none⟩,
 ⟨some 8, .mov (.const (.int .i64 0)), none⟩])
 (.block 0
 (.loop ac7_l0)))
 (.seq
 (.reg [⟨some 21, .mov (.tmp 3), none⟩,
 ⟨some 2, .mov (.tmp 21), none⟩])
 (.ret))))
theorem fn7 : Fun Tryd.prog 7 22 ac7 [.tmp 2] := ⟨mixedP, Tryd.f7, _, Tryd.func7, rfl, by decide +kernel, rfl, by kernel_rfl, by kernel_rfl⟩
/- glossator/glossatorref1.LineStarts -/
def ac8_l0 : AC := .seq
 (.reg [⟨some 11, .bin .lss .int (.tmp 10) (.tmp 9), none⟩])
 (.seq
 (.cond (.tmp 11)
 (.skip)
 (.exit 0))
 (.seq
 (.block 1
 (.seq
 (.reg [⟨some 12, .mov (.tmp 10), none⟩,
 ⟨some 13, .iaddr 1 (.tmp 8) (.tmp 10), none⟩,
 ⟨some 14, .load false 1 (.tmp 13), none⟩,
 ⟨some 4, .mov (.tmp 12), none⟩,
 ⟨some 5, .mov (.tmp 14), none⟩])
 (.seq
 (.reg [⟨some 15, .mov (.tmp 5), none⟩,
 ⟨some 16, .bin .eql .int (.tmp 15) (.const (.int .u8 10)), none⟩])
 (.cond (.tmp 16)
 (.reg [⟨some 17, .mov (.tmp 3), none⟩,
 ⟨some 18, .mov (.tmp 4), none⟩,
 ⟨some 19, .bin .add .int (.tmp 18) (.const (.int .i64 1)), none⟩,
 ⟨some 20, .bslice 3 1 [(.int .i64 0)] 1 [(0, (.tmp 19))], none⟩,
 ⟨some 21, .app 3 1 (.tmp 17) (.tmp 20), none⟩,
 ⟨some 3, .mov (.tmp 21), none⟩])
 (.skip)))))
 (.reg [⟨some 22, .bin .add .int (.tmp 10) (.const (.int .i64 1)), none⟩,
 ⟨some 10, .mov (.tmp 22), none⟩])))
def ac8 : AC := .seq
 (.reg [⟨some 2, .mov (.const (.slice none 0 0)), none⟩])
 (.seq
 (.reg [⟨some 6, .bslice 3 1 [(.int .i64 0)] 1 [(0, (.const (.int .i64 0)))], none⟩,
 ⟨some 3, .mov (.tmp 6), none⟩])
 (.seq
 (.seq
 (.reg [⟨some 7, .mov (.tmp 0), none⟩,
 ⟨some 8, .sbytes (.tmp 7), none⟩,
 ⟨some 9, .slen false (.tmp 8), none⟩,
 ⟨some 10, .mov (.const (.int .i64 0)), none⟩])
 (.block 0
 (.loop ac8_l0)))
 (.seq
 (.reg [⟨some 23, .mov (.tmp 3), none⟩,
 ⟨some 2, .mov (.tmp 23), none⟩])
 (.ret))))
theorem fn8 : Fun Tryd.prog 8 24 ac8 [.tmp 2] := ⟨mixedP, Tryd.f8, _, Tryd.func8, rfl, by decide +kernel, rfl, by kernel_rfl, by kernel_rfl⟩
/- glossator/position.UTF16Position -/
def ac9 : AC := .seq
 (.reg [⟨some 4, .alloc 23 2 [(.int .i64 0), (.int .i64 0)], none⟩,
 ⟨some 5, .mov (.const (.int .i64 0)), none⟩])
 (.seq
 (.reg [⟨some 6, .mov (.tmp 0), none⟩,
 ⟨some 7, .mov (.tmp 1), none⟩,
 ⟨some 8, .call (.func 15) [(.tmp 6), (.tmp 7), (.func 16)], none⟩,
 ⟨some 9, .ext (.tmp 8) 0, none⟩,
 ⟨some 10, .ext (.tmp 8) 1, none⟩,
 ⟨none, .store 2 (.tmp 4) (.tmp 9), none⟩,
 ⟨some 5, .mov (.tmp 10), none⟩])
 (.ret))
theorem fn9 : Fun Tryd.prog 9 11 ac9 [.cell 4 2 true, .tmp 5] := ⟨mixedP, Tryd.f9, _, Tryd.func9, rfl, by decide +kernel, rfl, by kernel_rfl, by kernel_rfl⟩
/- glossator/glossatorref1.PositionOf -/
def ac10_l0 : AC := .seq
 (.seq
 (.reg [⟨some 27, .mov (.tmp 8), none⟩,
 ⟨some 28, .mov (.tmp 9), none⟩,
 ⟨some 29, .iaddr 1 (.tmp 27) (.tmp 28), none⟩,
 ⟨some 30, .load false 1 (.tmp 29), none⟩,
 ⟨some 31, .mov (.tmp 1), none⟩,
 ⟨some 32, .bin .gtr .int (.tmp 30) (.tmp 31), none⟩])
 (.cond (.tmp 32)
 (.skip)
 (.exit 0)))
 (.block 1
 (.reg [⟨some 33, .mov (.tmp 9), none⟩,
 ⟨some 34, .bin .sub .int (.tmp 33) (.const (.int .i64 1)), none⟩,
 ⟨some 9, .mov (.tmp 34), none⟩]))
def ac10_l1 : AC := .seq
 (.reg [⟨some 43, .bin .lss .int (.tmp 42) (.tmp 41), none⟩])
 (.seq
 (.cond (.tmp 43)
 (.skip)
 (.exit 2))
 (.seq
 (.block 3
 (.seq
 (.reg [⟨some 44, .iaddr 3 (.tmp 40) (.tmp 42), none⟩,
 ⟨some 45, .load true 3 (.tmp 44), none⟩,
 ⟨some 12, .alloc 43 3 [(.int .i64 0), (.int .i64 0), (.int .i64 0)], none⟩,
 ⟨none, .store 3 (.tmp 12) (.tmp 45), none⟩])
 (.seq
 (.seq
 (.reg [⟨some 46, .faddr 0 (.tmp 12), none⟩,
 ⟨some 47, .load false 1 (.tmp 46), none⟩,
 ⟨some 48, .mov (.tmp 1), none⟩,
 ⟨some 49, .bin .geq .int (.tmp 47) (.tmp 48), none⟩])
 (.cond (.tmp 49)
 (.exit 2)
 (.skip)))
 (.seq
 (.seq
 (.reg [⟨some 50, .faddr 0 (.tmp 12), none⟩,
 ⟨some 51, .load false 1 (.tmp 50), none⟩,
 ⟨some 52, .faddr 1 (.tmp 12), none⟩,
 ⟨some 53, .load false 1 (.tmp 52), none⟩,
 ⟨some 54, .bin .add .int (.tmp 51) (.tmp 53), none⟩,
 ⟨some 55, .mov (.tmp 1), none⟩,
 ⟨some 56, .bin .gtr .int (.tmp 54) (.tmp 55), none⟩])
 (.cond (.tmp 56)
 (.seq
 (.reg [⟨some 57, .build [(.int .i64 0), (.int .i64 0)] [(0, 1), (1, 1)] [], none⟩,
 ⟨none, .store 2 (.tmp 6) (.tmp 57), none⟩,
 ⟨some 7, .mov (.const (.int .i64 3)), none⟩])
 (.ret))
 (.skip)))
 (.seq
 (.reg [⟨some 58, .mov (.tmp 2), none⟩])
 (.cond (.tmp 58)
 (.reg [⟨some 59, .mov (.tmp 10), none⟩,
 ⟨some 60, .faddr 2 (.tmp 12), none⟩,
 ⟨some 61, .load false 1 (.tmp 60), none⟩,
 ⟨some 62, .bin .add .int (.tmp 59) (.tmp 61), none⟩,
 ⟨some 10, .mov (.tmp 62), none⟩])
 (.reg [⟨some 63, .mov (.tmp 10), none⟩,
 ⟨some 64, .bin .add .int (.tmp 63) (.const (.int .i64 1)), none⟩,
 ⟨some 10, .mov (.tmp 64), none⟩])))))))
 (.reg [⟨some 65, .bin .add .int (.tmp 42) (.const (.int .i64 1)), none⟩,
 ⟨some 42, .mov (.tmp 65), none⟩])))
def ac10 : AC := .seq
 (.reg [⟨some 6, .alloc 23 2 [(.int .i64 0), (.int .i64 0)], none⟩,
 ⟨some 7, .mov (.const (.int .i64 0)), none⟩])
 (.seq
 (.seq
 (.reg [⟨some 13, .mov (.tmp 1), none⟩,
 ⟨some 14, .bin .lss .int (.tmp 13) (.const (.int .i64 0)), none⟩,
 ⟨some 15, .mov (.tmp 14), none⟩,
 ⟨some 16, .mov (.tmp 1), some (15, false)⟩,
 ⟨some 17, .mov (.tmp 0), some (15, false)⟩,
 ⟨some 18, .slen true (.tmp 17), some (15, false)⟩,
 ⟨some 19, .bin .gtr .int (.tmp 16) (.tmp 18), some (15, false)⟩,
 ⟨some 20, .pick (.tmp 15) (.const (.bool true)) (.tmp 19), none⟩])
 (.cond (.tmp 20)
 (.seq
 (.reg [⟨some 21, .build [(.int .i64 0), (.int .i64 0)] [(0, 1), (1, 1)] [], none⟩,
 ⟨none, .store 2 (.tmp 6) (.tmp 21), none⟩,
 ⟨some 7, .mov (.const (.int .i64 1)), none⟩])
 (.ret))
 (.skip)))
 (.seq
 (.reg [⟨some 22, .mov (.tmp 0), none⟩,
 ⟨some 23, .call (.func 8) [(.tmp 22)], none⟩,
 ⟨some 8, .mov (.tmp 23), none⟩])
 (.seq
 (.reg [⟨some 24, .mov (.tmp 8), none⟩,
 ⟨some 25, .slen false (.tmp 24), none⟩,
 ⟨some 26, .bin .sub .int (.tmp 25) (.const (.int .i64 1)), none⟩,
 ⟨some 9, .mov (.tmp 26), none⟩])
 (.seq
 (.block 0
 (.loop ac10_l0))
 (.seq
 (.reg [⟨some 10, .mov (.const (.int .i64 0)), none⟩])
 (.seq
 (.seq
 (.reg [⟨some 35, .mov (.tmp 0), none⟩,
 ⟨some 36, .mov (.tmp 8), none⟩,
 ⟨some 37, .mov (.tmp 9), none⟩,
 ⟨some 38, .iaddr 1 (.tmp 36) (.tmp 37), none⟩,
 ⟨some 39, .load false 1 (.tmp 38), none⟩,
 ⟨some 40, .call (.func 17) [(.tmp 35), (.tmp 39)], none⟩,
 ⟨some 41, .slen false (.tmp 40), none⟩,
 ⟨some 42, .mov (.const (.int .i64 0)), none⟩])
 (.block 2
 (.loop ac10_l1)))
 (.seq
 (.reg [⟨some 66, .mov (.tmp 9), none⟩,
 ⟨some 67, .mov (.tmp 10), none⟩,
 ⟨some 68, .build [(.int .i64 0), (.int .i64 0)] [(0, 1), (1, 1)] [(0, (.tmp 66)), (1, (.tmp 67))], none⟩,
 ⟨none, .store 2 (.tmp 6) (.tmp 68), none⟩,
 ⟨some 7, .mov (.const (.int .i64 0)), none⟩])
 (.ret))))))))
theorem fn10 : Fun Tryd.prog 10 69 ac10 [.cell 6 2 true, .tmp 7] := ⟨mixedP, Tryd.f10, _, Tryd.func10, rfl, by decide +kernel, rfl, by kernel_rfl, by kernel_rfl⟩
/- glossator/position.RunePosition -/
def ac11 : AC := .seq
 (.reg [⟨some 4, .alloc 23 2 [(.int .i64 0), (.int .i64 0)], none⟩,
 ⟨some 5, .mov (.const (.int .i64 0)), none⟩])
 (.seq
 (.reg [⟨some 6, .mov (.tmp 0), none⟩,
 ⟨some 7, .mov (.tmp 1), none⟩,
 ⟨some 8, .call (.func 15) [(.tmp 6), (.tmp 7), (.func 18)], none⟩,
 ⟨some 9, .ext (.tmp 8) 0, none⟩,
 ⟨some 10, .ext (.tmp 8) 1, none⟩,
 ⟨none, .store 2 (.tmp 4) (.tmp 9), none⟩,
 ⟨some 5, .mov (.tmp 10), none⟩])
 (.ret))
theorem fn11 : Fun Tryd.prog 11 11 ac11 [.cell 4 2 true, .tmp 5] := ⟨mixedP, Tryd.f11, _, Tryd.func11, rfl, by decide +kernel, rfl, by kernel_rfl, by kernel_rfl⟩
/- glossator/position.UTF16Offset -/
def ac12 : AC := .seq
 (.reg [⟨some 3, .box 23 2 (.tmp 1), none⟩,
 ⟨some 4, .mov (.const (.int .i64 0)), none⟩,
 ⟨some 5, .mov (.const (.int .i64 0)), none⟩])
 (.seq
 (.reg [⟨some 6, .mov (.tmp 0), none⟩,
 ⟨some 7, .load true 2 (.tmp 3), none⟩,
 ⟨some 8, .call (.func 19) [(.tmp 6), (.tmp 7), (.func 16)], none⟩,
 ⟨some 9, .ext (.tmp 8) 0, none⟩,
 ⟨some 10, .ext (.tmp 8) 1, none⟩,
 ⟨some 4, .mov (.tmp 9), none⟩,
 ⟨some 5, .mov (.tmp 10), none⟩])
 (.ret))
theorem fn12 : Fun Tryd.prog 12 11 ac12 [.tmp 4, .tmp 5] := ⟨mixedP, Tryd.f12, _, Tryd.func12, rfl, by decide +kernel, rfl, by kernel_rfl, by kernel_rfl⟩
/- glossator/glossatorref1.OffsetOf -/
def ac13_l0 : AC := .seq
 (.reg [⟨some 39, .bin .lss .int (.tmp 38) (.tmp 37), none⟩])
 (.seq
 (.cond (.tmp 39)
 (.skip)
 (.exit 0))
 (.seq
 (.block 1
 (.seq
 (.reg [⟨some 40, .iaddr 3 (.tmp 36) (.tmp 38), none⟩,
 ⟨some 41, .load true 3 (.tmp 40), none⟩,
 ⟨some 12, .alloc 43 3 [(.int .i64 0), (.int .i64 0), (.int .i64 0)], none⟩,
 ⟨none, .store 3 (.tmp 12) (.tmp 41), none⟩])
 (.seq
 (.seq
 (.reg [⟨some 42, .mov (.tmp 9), none⟩,
 ⟨some 43, .faddr 1 (.tmp 4), none⟩,
 ⟨some 44, .load false 1 (.tmp 43), none⟩,
 ⟨some 45, .bin .eql .int (.tmp 42) (.tmp 44), none⟩])
 (.cond (.tmp 45)
 (.seq
 (.reg [⟨some 46, .faddr 0 (.tmp 12), none⟩,
 ⟨some 47, .load false 1 (.tmp 46), none⟩,
 ⟨some 6, .mov (.tmp 47), none⟩,
 ⟨some 7, .mov (.const (.int .i64 0)), none⟩])
 (.ret))
 (.skip)))
 (.seq
 (.seq
 (.reg [⟨some 48, .mov (.tmp 2), none⟩,
 ⟨some 49, .mov (.tmp 48), none⟩,
 ⟨some 50, .faddr 2 (.tmp 12), some (49, true)⟩,
 ⟨some 51, .load false 1 (.tmp 50), some (49, true)⟩,
 ⟨some 52, .bin .eql .int (.tmp 51) (.const (.int .i64 2)), some (49, true)⟩,
 ⟨some 53, .pick (.tmp 49) (.tmp 52) (.const (.bool false)), none⟩,
 ⟨some 54, .mov (.tmp 53), none⟩,
 ⟨some 55, .mov (.tmp 9), some (54, true)⟩,
 ⟨some 56, .bin .add .int (.tmp 55) (.const (.int .i64 1)), some (54, true)⟩,
 ⟨some 57, .faddr 1 (.tmp 4), some (54, true)⟩,
 ⟨some 58, .load false 1 (.tmp 57), some (54, true)⟩,
 ⟨some 59, .bin .eql .int (.tmp 56) (.tmp 58), some (54, true)⟩,
 ⟨some 60, .pick (.tmp 54) (.tmp 59) (.const (.bool false)), none⟩])
 (.cond (.tmp 60)
 (.seq
 (.reg [⟨some 6, .mov (.const (.int .i64 0)), none⟩,
 ⟨some 7, .mov (.const (.int .i64 3)), none⟩])
 (.ret))
 (.skip)))
 (.seq
 (.seq
 (.reg [⟨some 61, .mov (.tmp 2), none⟩])
 (.cond (.tmp 61)
 (.reg [⟨some 62, .mov (.tmp 9), none⟩,
 ⟨some 63, .faddr 2 (.tmp 12), none⟩,
 ⟨some 64, .load false 1 (.tmp 63), none⟩,
 ⟨some 65, .bin .add .int (.tmp 62) (.tmp 64), none⟩,
 ⟨some 9, .mov (.tmp 65), none⟩])
 (.reg [⟨some 66, .mov (.tmp 9), none⟩,
 ⟨some 67, .bin .add .int (.tmp 66) (.const (.int .i64 1)), none⟩,
 ⟨some 9, .mov (.tmp 67), none⟩])))
 (.reg [⟨some 68, .faddr 0 (.tmp 12), none⟩,
 ⟨some 69, .load false 1 (.tmp 68), none⟩,
 ⟨some 70, .faddr 1 (.tmp 12), none⟩,
 ⟨some 71, .load false 1 (.tmp 70), none⟩,
 ⟨some 72, .bin .add .int (.tmp 69) (.tmp 71), none⟩,
 ⟨some 10, .mov (.tmp 72), none⟩]))))))
 (.reg [⟨some 73, .bin .add .int (.tmp 38) (.const (.int .i64 1)), none⟩,
 ⟨some 38, .mov (.tmp 73), none⟩])))
def ac13 : AC := .seq
 (.reg [⟨some 4, .box 23 2 (.tmp 1), none⟩,
 ⟨some 6, .mov (.const (.int .i64 0)), none⟩,
 ⟨some 7, .mov (.const (.int .i64 0)), none⟩])
 (.seq
 (.reg [⟨some 13, .mov (.tmp 0), none⟩,
 ⟨some 14, .call (.func 8) [(.tmp 13)], none⟩,
 ⟨some 8, .mov (.tmp 14), none⟩])
 (.seq
 (.seq
 (.reg [⟨some 15, .faddr 0 (.tmp 4), none⟩,
 ⟨some 16, .load false 1 (.tmp 15), none⟩,
 ⟨some 17, .bin .lss .int (.tmp 16) (.const (.int .i64 0)), none⟩,
 ⟨some 18, .mov (.tmp 17), none⟩,
 ⟨some 19, .faddr 0 (.tmp 4), some (18, false)⟩,
 ⟨some 20, .load false 1 (.tmp 19), some (18, false)⟩,
 ⟨some 21, .mov (.tmp 8), some (18, false)⟩,
 ⟨some 22, .slen false (.tmp 21), some (18, false)⟩,
 ⟨some 23, .bin .geq .int (.tmp 20) (.tmp 22), some (18, false)⟩,
 ⟨some 24, .pick (.tmp 18) (.const (.bool true)) (.tmp 23), none⟩])
 (.cond (.tmp 24)
 (.seq
 (.reg [⟨some 6, .mov (.const (.int .i64 0)), none⟩,
 ⟨some 7, .mov (.const (.int .i64 5)), none⟩])
 (.ret))
 (.skip)))
 (.seq
 (.dreg [⟨some 25, .mov (.tmp 8), none⟩,
 ⟨some 26, .faddr 0 (.tmp 4), none⟩,
 ⟨some 27, .load false 1 (.tmp 26), none⟩,
 ⟨some 28, .iaddr 1 (.tmp 25) (.tmp 27), none⟩,
 ⟨some 29, .load false 1 (.tmp 28), none⟩,
 ⟨some 9, .mov (.const (.int .i64 0)), none⟩,
 ⟨some 10, .mov (.tmp 29), none⟩]
 [[], [], [1], [0, 2], [3], [], [4, 5, 0, 1, 2, 3, 4, 5]]
 [[8], [4], [26], [25, 27], [28], [], [29]])
 (.seq
 (.seq
 (.reg [⟨some 30, .mov (.tmp 0), none⟩,
 ⟨some 31, .mov (.tmp 8), none⟩,
 ⟨some 32, .faddr 0 (.tmp 4), none⟩,
 ⟨some 33, .load false 1 (.tmp 32), none⟩,
 ⟨some 34, .iaddr 1 (.tmp 31) (.tmp 33), none⟩,
 ⟨some 35, .load false 1 (.tmp 34), none⟩,
 ⟨some 36, .call (.func 17) [(.tmp 30), (.tmp 35)], none⟩,
 ⟨some 37, .slen false (.tmp 36), none⟩,
 ⟨some 38, .mov (.const (.int .i64 0)), none⟩])
 (.block 0
 (.loop ac13_l0)))
 (.seq
 (.seq
 (.reg [⟨some 74, .mov (.tmp 9), none⟩,
 ⟨some 75, .faddr 1 (.tmp 4), none⟩,
 ⟨some 76, .load false 1 (.tmp 75), none⟩,
 ⟨some 77, .bin .eql .int (.tmp 74) (.tmp 76), none⟩])
 (.cond (.tmp 77)
 (.seq
 (.reg [⟨some 78, .mov (.tmp 10), none⟩,
 ⟨some 6, .mov (.tmp 78), none⟩,
 ⟨some 7, .mov (.const (.int .i64 0)), none⟩])
 (.ret))
 (.skip)))
 (.seq
 (.reg [⟨some 6, .mov (.const (.int .i64 0)), none⟩,
 ⟨some 7, .mov (.const (.int .i64 1)), none⟩])
 (.ret)))))))
theorem fn13 : Fun Tryd.prog 13 79 ac13 [.tmp 6, .tmp 7] := ⟨mixedP, Tryd.f13, _, Tryd.func13, rfl, by decide +kernel, rfl, by kernel_rfl, by kernel_rfl⟩
/- glossator/position.RuneOffset -/
def ac14 : AC := .seq
 (.reg [⟨some 3, .box 23 2 (.tmp 1), none⟩,
 ⟨some 4, .mov (.const (.int .i64 0)), none⟩,
 ⟨some 5, .mov (.const (.int .i64 0)), none⟩])
 (.seq
 (.reg [⟨some 6, .mov (.tmp 0), none⟩,
 ⟨some 7, .load true 2 (.tmp 3), none⟩,
 ⟨some 8, .call (.func 19) [(.tmp 6), (.tmp 7), (.func 18)], none⟩,
 ⟨some 9, .ext (.tmp 8) 0, none⟩,
 ⟨some 10, .ext (.tmp 8) 1, none⟩,
 ⟨some 4, .mov (.tmp 9), none⟩,
 ⟨some 5, .mov (.tmp 10), none⟩])
 (.ret))
theorem fn14 : Fun Tryd.prog 14 11 ac14 [.tmp 4, .tmp 5] := ⟨mixedP, Tryd.f14, _, Tryd.func14, rfl, by decide +kernel, rfl, by kernel_rfl, by kernel_rfl⟩
/- glossator/position.toPosition -/
def ac15_l0 : AC := .seq
 (.seq
 (.reg [⟨some 31, .mov (.tmp 9), none⟩,
 ⟨some 32, .mov (.tmp 1), none⟩,
 ⟨some 33, .bin .lss .int (.tmp 31) (.tmp 32), none⟩])
 (.cond (.tmp 33)
 (.skip)
 (.exit 0)))
 (.block 1
 (.seq
 (.reg [⟨some 35, .mov (.tmp 0), none⟩,
 ⟨some 36, .mov (.tmp 9), none⟩,
 ⟨some 37, .sslice (.tmp 35) (some (.tmp 36)) none, none⟩,
 ⟨some 38, .call (.func 22) [(.tmp 37)], none⟩,
 ⟨some 34, .mov (.tmp 38), none⟩,
 ⟨some 39, .ext (.tmp 34) 0, none⟩,
 ⟨some 40, .ext (.tmp 34) 1, none⟩,
 ⟨some 10, .mov (.tmp 39), none⟩,
 ⟨some 11, .mov (.tmp 40), none⟩])
 (.seq
 (.reg [⟨some 41, .mov (.tmp 9), none⟩,
 ⟨some 42, .mov (.tmp 11), none⟩,
 ⟨some 43, .bin .add .int (.tmp 41) (.tmp 42), none⟩,
 ⟨some 9, .mov (.tmp 43), none⟩])
 (.dreg [⟨some 44, .faddr 1 (.tmp 8), none⟩,
 ⟨some 45, .load false 1 (.tmp 44), none⟩,
 ⟨some 46, .mov (.tmp 2), none⟩,
 ⟨some 47, .mov (.tmp 10), none⟩,
 ⟨some 48, .call (.tmp 46) [(.tmp 47)], none⟩,
 ⟨some 49, .bin .add .int (.tmp 45) (.tmp 48), none⟩,
 ⟨some 50, .faddr 1 (.tmp 8), none⟩,
 ⟨none, .store 1 (.tmp 50) (.tmp 49), none⟩]
 [[], [0], [], [], [2, 3], [1, 4], [0, 1, 2, 3, 4, 5], [6, 5, 4, 0, 1, 2, 3, 4, 5]]
 [[8], [44], [2], [10], [46, 47], [45, 48], [8], [50, 49]]))))
def ac15 : AC := .seq
 (.reg [⟨some 6, .alloc 23 2 [(.int .i64 0), (.int .i64 0)], none⟩,
 ⟨some 7, .mov (.const (.int .i64 0)), none⟩])
 (.seq
 (.seq
 (.reg [⟨some 12, .mov (.tmp 1), none⟩,
 ⟨some 13, .bin .lss .int (.tmp 12) (.const (.int .i64 0)), none⟩,
 ⟨some 14, .mov (.tmp 13), none⟩,
 ⟨some 15, .mov (.tmp 1), some (14, false)⟩,
 ⟨some 16, .mov (.tmp 0), some (14, false)⟩,
 ⟨some 17, .slen true (.tmp 16), some (14, false)⟩,
 ⟨some 18, .bin .gtr .int (.tmp 15) (.tmp 17), some (14, false)⟩,
 ⟨some 19, .pick (.tmp 14) (.const (.bool true)) (.tmp 18), none⟩])
 (.cond (.tmp 19)
 (.seq
 (.reg [⟨some 20, .build [(.int .i64 0), (.int .i64 0)] [(0, 1), (1, 1)] [], none⟩,
 ⟨none, .store 2 (.tmp 6) (.tmp 20), none⟩,
 ⟨some 7, .mov (.const (.int .i64 1)), none⟩])
 (.ret))
 (.skip)))
 (.seq
 (.reg [⟨some 21, .mov (.tmp 0), none⟩,
 ⟨some 22, .mov (.tmp 1), none⟩,
 ⟨some 23, .sslice (.tmp 21) none (some (.tmp 22)), none⟩,
 ⟨some 24, .call (.func 20) [(.tmp 23), (.const (.string ⟨#[10]⟩))], none⟩,
 ⟨some 25, .build [(.int .i64 0), (.int .i64 0)] [(0, 1), (1, 1)] [(0, (.tmp 24))], none⟩,
 ⟨some 8, .alloc 23 2 [(.int .i64 0), (.int .i64 0)], none⟩,
 ⟨none, .store 2 (.tmp 8) (.tmp 25), none⟩])
 (.seq
 (.reg [⟨some 26, .mov (.tmp 0), none⟩,
 ⟨some 27, .mov (.tmp 1), none⟩,
 ⟨some 28, .sslice (.tmp 26) none (some (.tmp 27)), none⟩,
 ⟨some 29, .call (.func 21) [(.tmp 28), (.const (.int .u8 10))], none⟩,
 ⟨some 30, .bin .add .int (.tmp 29) (.const (.int .i64 1)), none⟩,
 ⟨some 9, .mov (.tmp 30), none⟩])
 (.seq
 (.block 0
 (.loop ac15_l0))
 (.seq
 (.seq
 (.reg [⟨some 51, .mov (.tmp 9), none⟩,
 ⟨some 52, .mov (.tmp 1), none⟩,
 ⟨some 53, .bin .gtr .int (.tmp 51) (.tmp 52), none⟩])
 (.cond (.tmp 53)
 (.seq
 (.reg [⟨some 54, .build [(.int .i64 0), (.int .i64 0)] [(0, 1), (1, 1)] [], none⟩,
 ⟨none, .store 2 (.tmp 6) (.tmp 54), none⟩,
 ⟨some 7, .mov (.const (.int .i64 3)), none⟩])
 (.ret))
 (.skip)))
 (.seq
 (.reg [⟨some 55, .load true 2 (.tmp 8), none⟩,
 ⟨none, .store 2 (.tmp 6) (.tmp 55), none⟩,
 ⟨some 7, .mov (.const (.int .i64 0)), none⟩])
 (.ret)))))))
theorem fn15 : Fun Tryd.prog 15 56 ac15 [.cell 6 2 true, .tmp 7] := ⟨mixedP, Tryd.f15, _, Tryd.func15, rfl, by decide +kernel, rfl, by kernel_rfl, by kernel_rfl⟩
/- glossator/position.utf16Width -/
def ac16 : AC := .seq
 (.reg [⟨some 2, .mov (.const (.int .i64 0)), none⟩])
 (.seq
 (.seq
 (.reg [⟨some 3, .mov (.tmp 0), none⟩,
 ⟨some 4, .bin .gtr .int (.tmp 3) (.const (.int .i32 65535)), none⟩])
 (.cond (.tmp 4)
 (.seq
 (.reg [⟨some 2, .mov (.const (.int .i64 2)), none⟩])
 (.ret))
 (.skip)))
 (.seq
 (.reg [⟨some 2, .mov (.const (.int .i64 1)), none⟩])
 (.ret)))
theorem fn16 : Fun Tryd.prog 16 5 ac16 [.tmp 2] := ⟨mixedP, Tryd.f16, _, Tryd.func16, rfl, by decide +kernel, rfl, by kernel_rfl, by kernel_rfl⟩
/- glossator/position.runeWidth -/
def ac18 : AC := .seq
 (.reg [⟨some 2, .mov (.const (.int .i64 0)), none⟩])
 (.seq
 (.reg [⟨some 2, .mov (.const (.int .i64 1)), none⟩])
 (.ret))
theorem fn18 : Fun Tryd.prog 18 3 ac18 [.tmp 2] := ⟨mixedP, Tryd.f18, _, Tryd.func18, rfl, by decide +kernel, rfl, by kernel_rfl, by kernel_rfl⟩
/- glossator/position.toOffset -/
def ac19_l0 : AC := .seq
 (.seq
 (.reg [⟨some 30, .mov (.tmp 10), none⟩,
 ⟨some 31, .faddr 1 (.tmp 4), none⟩,
 ⟨some 32, .load false 1 (.tmp 31), none⟩,
 ⟨some 33, .bin .lss .int (.tmp 30) (.tmp 32), none⟩,
 ⟨some 34, .mov (.tmp 33), none⟩,
 ⟨some 35, .mov (.tmp 9), some (34, true)⟩,
 ⟨some 36, .mov (.tmp 0), some (34, true)⟩,
 ⟨some 37, .slen true (.tmp 36), some (34, true)⟩,
 ⟨some 38, .bin .lss .int (.tmp 35) (.tmp 37), some (34, true)⟩,
 ⟨some 39, .pick (.tmp 34) (.tmp 38) (.const (.bool false)), none⟩,
 ⟨some 40, .mov (.tmp 39), none⟩,
 ⟨some 41, .mov (.tmp 0), some (40, true)⟩,
 ⟨some 42, .mov (.tmp 9), some (40, true)⟩,
 ⟨some 43, .sindex (.tmp 41) (.tmp 42), some (40, true)⟩,
 ⟨some 44, .bin .neq .int (.tmp 43) (.const (.int .u8 10)), some (40, true)⟩,
 ⟨some 45, .pick (.tmp 40) (.tmp 44) (.const (.bool false)), none⟩])
 (.cond (.tmp 45)
 (.skip)
 (.exit 0)))
 (.block 1
 (.seq
 (.reg [⟨some 47, .mov (.tmp 0), none⟩,
 ⟨some 48, .mov (.tmp 9), none⟩,
 ⟨some 49, .sslice (.tmp 47) (some (.tmp 48)) none, none⟩,
 ⟨some 50, .call (.func 22) [(.tmp 49)], none⟩,
 ⟨some 46, .mov (.tmp 50), none⟩,
 ⟨some 51, .ext (.tmp 46) 0, none⟩,
 ⟨some 52, .ext (.tmp 46) 1, none⟩,
 ⟨some 11, .mov (.tmp 51), none⟩,
 ⟨some 12, .mov (.tmp 52), none⟩])
 (.seq
 (.reg [⟨some 53, .mov (.tmp 9), none⟩,
 ⟨some 54, .mov (.tmp 12), none⟩,
 ⟨some 55, .bin .add .int (.tmp 53) (.tmp 54), none⟩,
 ⟨some 9, .mov (.tmp 55), none⟩])
 (.reg [⟨some 56, .mov (.tmp 10), none⟩,
 ⟨some 57, .mov (.tmp 2), none⟩,
 ⟨some 58, .mov (.tmp 11), none⟩,
 ⟨some 59, .call (.tmp 57) [(.tmp 58)], none⟩,
 ⟨some 60, .bin .add .int (.tmp 56) (.tmp 59), none⟩,
 ⟨some 10, .mov (.tmp 60), none⟩]))))
def ac19 : AC := .seq
 (.reg [⟨some 4, .box 23 2 (.tmp 1), none⟩,
 ⟨some 6, .mov (.const (.int .i64 0)), none⟩,
 ⟨some 7, .mov (.const (.int .i64 0)), none⟩])
 (.seq
 (.reg [⟨some 13, .mov (.tmp 0), none⟩,
 ⟨some 14, .call (.func 7) [(.tmp 13)], none⟩,
 ⟨some 8, .mov (.tmp 14), none⟩])
 (.seq
 (.seq
 (.reg [⟨some 15, .faddr 0 (.tmp 4), none⟩,
 ⟨some 16, .load false 1 (.tmp 15), none⟩,
 ⟨some 17, .bin .lss .int (.tmp 16) (.const (.int .i64 0)), none⟩,
 ⟨some 18, .mov (.tmp 17), none⟩,
 ⟨some 19, .faddr 0 (.tmp 4), some (18, false)⟩,
 ⟨some 20, .load false 1 (.tmp 19), some (18, false)⟩,
 ⟨some 21, .mov (.tmp 8), some (18, false)⟩,
 ⟨some 22, .slen false (.tmp 21), some (18, false)⟩,
 ⟨some 23, .bin .geq .int (.tmp 20) (.tmp 22), some (18, false)⟩,
 ⟨some 24, .pick (.tmp 18) (.const (.bool true)) (.tmp 23), none⟩])
 (.cond (.tmp 24)
 (.seq
 (.reg [⟨some 6, .mov (.const (.int .i64 0)), none⟩,
 ⟨some 7, .mov (.const (.int .i64 5)), none⟩])
 (.ret))
 (.skip)))
 (.seq
 (.reg [⟨some 25, .mov (.tmp 8), none⟩,
 ⟨some 26, .faddr 0 (.tmp 4), none⟩,
 ⟨some 27, .load false 1 (.tmp 26), none⟩,
 ⟨some 28, .iaddr 1 (.tmp 25) (.tmp 27), none⟩,
 ⟨some 29, .load false 1 (.tmp 28), none⟩,
 ⟨some 9, .mov (.tmp 29), none⟩,
 ⟨some 10, .mov (.const (.int .i64 0)), none⟩])
 (.seq
 (.block 0
 (.loop ac19_l0))
 (.seq
 (.block 2
 (.seq
 (.reg [⟨some 62, .faddr 1 (.tmp 4), none⟩,
 ⟨some 63, .load false 1 (.tmp 62), none⟩,
 ⟨some 64, .bin .lss .int (.tmp 63) (.const (.int .i64 0)), none⟩,
 ⟨some 65, .mov (.tmp 64), none⟩,
 ⟨some 66, .mov (.tmp 10), some (65, false)⟩,
 ⟨some 67, .faddr 1 (.tmp 4), some (65, false)⟩,
 ⟨some 68, .load false 1 (.tmp 67), some (65, false)⟩,
 ⟨some 69, .bin .lss .int (.tmp 66) (.tmp 68), some (65, false)⟩,
 ⟨some 70, .pick (.tmp 65) (.const (.bool true)) (.tmp 69), none⟩,
 ⟨some 61, .mov (.tmp 70), none⟩])
 (.cond (.tmp 61)
 (.seq
 (.reg [⟨some 6, .mov (.const (.int .i64 0)), none⟩,
 ⟨some 7, .mov (.const (.int .i64 1)), none⟩])
 (.ret))
 (.seq
 (.reg [⟨some 72, .mov (.tmp 10), none⟩,
 ⟨some 73, .faddr 1 (.tmp 4), none⟩,
 ⟨some 74, .load false 1 (.tmp 73), none⟩,
 ⟨some 75, .bin .gtr .int (.tmp 72) (.tmp 74), none⟩,
 ⟨some 71, .mov (.tmp 75), none⟩])
 (.cond (.tmp 71)
 (.seq
 (.reg [⟨some 6, .mov (.const (.int .i64 0)), none⟩,
 ⟨some 7, .mov (.const (.int .i64 3)), none⟩])
 (.ret))
 (.skip))))))
 (.seq
 (.reg [⟨some 76, .mov (.tmp 9), none⟩,
 ⟨some 6, .mov (.tmp 76), none⟩,
 ⟨some 7, .mov (.const (.int .i64 0)), none⟩])
 (.ret)))))))
theorem fn19 : Fun Tryd.prog 19 77 ac19 [.tmp 6, .tmp 7] := ⟨mixedP, Tryd.f19, _, Tryd.func19, rfl, by decide +kernel, rfl, by kernel_rfl, by kernel_rfl⟩
/- strings.Count -/
def ac20_l0 : AC := .block 1
 (.seq
 (.reg [⟨some 20, .mov (.tmp 0), none⟩,
 ⟨some 21, .mov (.tmp 1), none⟩,
 ⟨some 22, .call (.func 25) [(.tmp 20), (.tmp 21)], none⟩,
 ⟨some 6, .mov (.tmp 22), none⟩])
 (.seq
 (.seq
 (.reg [⟨some 23, .mov (.tmp 6), none⟩,
 ⟨some 24, .bin .eql .int (.tmp 23) (.const (.int .i64 (-1))), none⟩])
 (.cond (.tmp 24)
 (.seq
 (.reg [⟨some 25, .mov (.tmp 5), none⟩,
 ⟨some 4, .mov (.tmp 25), none⟩])
 (.ret))
 (.skip)))
 (.seq
 (.reg [⟨some 26, .mov (.tmp 5), none⟩,
 ⟨some 27, .bin .add .int (.tmp 26) (.const (.int .i64 1)), none⟩,
 ⟨some 5, .mov (.tmp 27), none⟩])
 (.reg [⟨some 28, .mov (.tmp 0), none⟩,
 ⟨some 29, .mov (.tmp 6), none⟩,
 ⟨some 30, .mov (.tmp 1), none⟩,
 ⟨some 31, .slen true (.tmp 30), none⟩,
 ⟨some 32, .bin .add .int (.tmp 29) (.tmp 31), none⟩,
 ⟨some 33, .sslice (.tmp 28) (some (.tmp 32)) none, none⟩,
 ⟨some 0, .mov (.tmp 33), none⟩]))))
def ac20 : AC := .seq
 (.reg [⟨some 4, .mov (.const (.int .i64 0)), none⟩])
 (.seq
 (.seq
 (.reg [⟨some 7, .mov (.tmp 1), none⟩,
 ⟨some 8, .slen true (.tmp 7), none⟩,
 ⟨some 9, .bin .eql .int (.tmp 8) (.const (.int .i64 0)), none⟩])
 (.cond (.tmp 9)
 (.seq
 (.reg [⟨some 10, .mov (.tmp 0), none⟩,
 ⟨some 11, .call (.func 23) [(.tmp 10)], none⟩,
 ⟨some 12, .bin .add .int (.tmp 11) (.const (.int .i64 1)), none⟩,
 ⟨some 4, .mov (.tmp 12), none⟩])
 (.ret))
 (.skip)))
 (.seq
 (.seq
 (.reg [⟨some 13, .mov (.tmp 1), none⟩,
 ⟨some 14, .slen true (.tmp 13), none⟩,
 ⟨some 15, .bin .eql .int (.tmp 14) (.const (.int .i64 1)), none⟩])
 (.cond (.tmp 15)
 (.seq
 (.reg [⟨some 16, .mov (.tmp 0), none⟩,
 ⟨some 17, .mov (.tmp 1), none⟩,
 ⟨some 18, .sindex (.tmp 17) (.const (.int .i64 0)), none⟩,
 ⟨some 19, .call (.func 24) [(.tmp 16), (.tmp 18)], none⟩,
 ⟨some 4, .mov (.tmp 19), none⟩])
 (.ret))
 (.skip)))
 (.seq
 (.reg [⟨some 5, .mov (.const (.int .i64 0)), none⟩])
 (.block 0
 (.loop ac20_l0)))))
theorem fn20 : Fun Tryd.prog 20 34 ac20 [.tmp 4] := ⟨mixedP, Tryd.f20, _, Tryd.func20, rfl, by decide +kernel, rfl, by kernel_rfl, by kernel_rfl⟩
/- strings.LastIndexByte -/
def ac21 : AC := .seq
 (.reg [⟨some 4, .mov (.const (.int .i64 0)), none⟩])
 (.seq
 (.reg [⟨some 5, .mov (.tmp 0), none⟩,
 ⟨some 6, .mov (.tmp 1), none⟩,
 ⟨some 7, .call (.func 26) [(.tmp 5), (.tmp 6)], none⟩,
 ⟨some 4, .mov (.tmp 7), none⟩])
 (.ret))
theorem fn21 : Fun Tryd.prog 21 8 ac21 [.tmp 4] := ⟨mixedP, Tryd.f21, _, Tryd.func21, rfl, by decide +kernel, rfl, by kernel_rfl, by kernel_rfl⟩
/- unicode/utf8.DecodeRuneInString -/
def ac22 : AC := .seq
 (.reg [⟨some 2, .mov (.const (.int .i32 0)), none⟩,
 ⟨some 3, .mov (.const (.int .i64 0)), none⟩])
 (.seq
 (.seq
 (.reg [⟨some 4, .mov (.tmp 0), none⟩,
 ⟨some 5, .bin .neq .str (.tmp 4) (.const (.string ⟨#[]⟩)), none⟩,
 ⟨some 6, .mov (.tmp 5), none⟩,
 ⟨some 7, .mov (.tmp 0), some (6, true)⟩,
 ⟨some 8, .sindex (.tmp 7) (.const (.int .i64 0)), some (6, true)⟩,
 ⟨some 9, .bin .lss .int (.tmp 8) (.const (.int .u8 128)), some (6, true)⟩,
 ⟨some 10, .pick (.tmp 6) (.tmp 9) (.const (.bool false)), none⟩])
 (.cond (.tmp 10)
 (.seq
 (.reg [⟨some 11, .mov (.tmp 0), none⟩,
 ⟨some 12, .sindex (.tmp 11) (.const (.int .i64 0)), none⟩,
 ⟨some 13, .conv .i32 (.tmp 12), none⟩,
 ⟨some 2, .mov (.tmp 13), none⟩,
 ⟨some 3, .mov (.const (.int .i64 1)), none⟩])
 (.ret))
 (.reg [⟨some 15, .mov (.tmp 0), none⟩,
 ⟨some 16, .call (.func 27) [(.tmp 15)], none⟩,
 ⟨some 14, .mov (.tmp 16), none⟩,
 ⟨some 17, .ext (.tmp 14) 0, none⟩,
 ⟨some 18, .ext (.tmp 14) 1, none⟩,
 ⟨some 2, .mov (.tmp 17), none⟩,
 ⟨some 3, .mov (.tmp 18), none⟩])))
 (.ret))
theorem fn22 : Fun Tryd.prog 22 19 ac22 [.tmp 2, .tmp 3] := ⟨mixedP, Tryd.f22, _, Tryd.func22, rfl, by decide +kernel, rfl, by kernel_rfl, by kernel_rfl⟩
/- strings.Index -/
def ac25 : AC := .seq
 (.reg [⟨some 4, .mov (.const (.int .i64 0)), none⟩])
 (.seq
 (.reg [⟨some 5, .mov (.tmp 0), none⟩,
 ⟨some 6, .mov (.tmp 1), none⟩,
 ⟨some 7, .call (.func 28) [(.tmp 5), (.tmp 6)], none⟩,
 ⟨some 4, .mov (.tmp 7), none⟩])
 (.ret))
theorem fn25 : Fun Tryd.prog 25 8 ac25 [.tmp 4] := ⟨mixedP, Tryd.f25, _, Tryd.func25, rfl, by decide +kernel, rfl, by kernel_rfl, by kernel_rfl⟩
/- internal/bytealg.LastIndexByteString -/
def ac26_l0 : AC := .seq
 (.seq
 (.reg [⟨some 9, .mov (.tmp 5), none⟩,
 ⟨some 10, .bin .geq .int (.tmp 9) (.const (.int .i64 0)), none⟩])
 (.cond (.tmp 10)
 (.skip)
 (.exit 0)))
 (.seq
 (.block 1
 (.seq
 (.reg [⟨some 13, .mov (.tmp 0), none⟩,
 ⟨some 14, .mov (.tmp 5), none⟩,
 ⟨some 15, .sindex (.tmp 13) (.tmp 14), none⟩,
 ⟨some 16, .mov (.tmp 1), none⟩,
 ⟨some 17, .bin .eql .int (.tmp 15) (.tmp 16), none⟩])
 (.cond (.tmp 17)
 (.seq
 (.reg [⟨some 18, .mov (.tmp 5), none⟩,
 ⟨some 4, .mov (.tmp 18), none⟩])
 (.ret))
 (.skip))))
 (.reg [⟨some 11, .mov (.tmp 5), none⟩,
 ⟨some 12, .bin .sub .int (.tmp 11) (.const (.int .i64 1)), none⟩,
 ⟨some 5, .mov (.tmp 12), none⟩]))
def ac26 : AC := .seq
 (.reg [⟨some 4, .mov (.const (.int .i64 0)), none⟩])
 (.seq
 (.seq
 (.reg [⟨some 6, .mov (.tmp 0), none⟩,
 ⟨some 7, .slen true (.tmp 6), none⟩,
 ⟨some 8, .bin .sub .int (.tmp 7) (.const (.int .i64 1)), none⟩,
 ⟨some 5, .mov (.tmp 8), none⟩])
 (.block 0
 (.loop ac26_l0)))
 (.seq
 (.reg [⟨some 4, .mov (.const (.int .i64 (-1))), none⟩])
 (.ret)))
theorem fn26 : Fun Tryd.prog 26 19 ac26 [.tmp 4] := ⟨mixedP, Tryd.f26, _, Tryd.func26, rfl, by decide +kernel, rfl, by kernel_rfl, by kernel_rfl⟩
/- internal/stringslite.Index -/
def ac28_l0 : AC := .seq
 (.seq
 (.reg [⟨some 57, .mov (.tmp 8), none⟩,
 ⟨some 58, .mov (.tmp 9), none⟩,
 ⟨some 59, .bin .lss .int (.tmp 57) (.tmp 58), none⟩])
 (.cond (.tmp 59)
 (.skip)
 (.exit 1)))
 (.block 2
 (.seq
 (.seq
 (.reg [⟨some 60, .mov (.tmp 0), none⟩,
 ⟨some 61, .mov (.tmp 8), none⟩,
 ⟨some 62, .sindex (.tmp 60) (.tmp 61), none⟩,
 ⟨some 63, .mov (.tmp 6), none⟩,
 ⟨some 64, .bin .neq .int (.tmp 62) (.tmp 63), none⟩])
 (.cond (.tmp 64)
 (.seq
 (.reg [⟨some 65, .mov (.tmp 0), none⟩,
 ⟨some 66, .mov (.tmp 8), none⟩,
 ⟨some 67, .bin .add .int (.tmp 66) (.const (.int .i64 1)), none⟩,
 ⟨some 68, .mov (.tmp 9), none⟩,
 ⟨some 69, .sslice (.tmp 65) (some (.tmp 67)) (some (.tmp 68)), none⟩,
 ⟨some 70, .mov (.tmp 6), none⟩,
 ⟨some 71, .call (.func 29) [(.tmp 69), (.tmp 70)], none⟩,
 ⟨some 11, .mov (.tmp 71), none⟩])
 (.seq
 (.seq
 (.reg [⟨some 72, .mov (.tmp 11), none⟩,
 ⟨some 73, .bin .lss .int (.tmp 72) (.const (.int .i64 0)), none⟩])
 (.cond (.tmp 73)
 (.seq
 (.reg [⟨some 4, .mov (.const (.int .i64 (-1))), none⟩])
 (.ret))
 (.skip)))
 (.reg [⟨some 74, .mov (.tmp 8), none⟩,
 ⟨some 75, .mov (.tmp 11), none⟩,
 ⟨some 76, .bin .add .int (.tmp 75) (.const (.int .i64 1)), none⟩,
 ⟨some 77, .bin .add .int (.tmp 74) (.tmp 76), none⟩,
 ⟨some 8, .mov (.tmp 77), none⟩])))
 (.skip)))
 (.seq
 (.seq
 (.reg [⟨some 78, .mov (.tmp 0), none⟩,
 ⟨some 79, .mov (.tmp 8), none⟩,
 ⟨some 80, .bin .add .int (.tmp 79) (.const (.int .i64 1)), none⟩,
 ⟨some 81, .sindex (.tmp 78) (.tmp 80), none⟩,
 ⟨some 82, .mov (.tmp 7), none⟩,
 ⟨some 83, .bin .eql .int (.tmp 81) (.tmp 82), none⟩,
 ⟨some 84, .mov (.tmp 83), none⟩,
 ⟨some 85, .mov (.tmp 0), some (84, true)⟩,
 ⟨some 86, .mov (.tmp 8), some (84, true)⟩,
 ⟨some 87, .mov (.tmp 8), some (84, true)⟩,
 ⟨some 88, .mov (.tmp 5), some (84, true)⟩,
 ⟨some 89, .bin .add .int (.tmp 87) (.tmp 88), some (84, true)⟩,
 ⟨some 90, .sslice (.tmp 85) (some (.tmp 86)) (some (.tmp 89)), some (84, true)⟩,
 ⟨some 91, .mov (.tmp 1), some (84, true)⟩,
 ⟨some 92, .bin .eql .str (.tmp 90) (.tmp 91), some (84, true)⟩,
 ⟨some 93, .pick (.tmp 84) (.tmp 92) (.const (.bool false)), none⟩])
 (.cond (.tmp 93)
 (.seq
 (.reg [⟨some 94, .mov (.tmp 8), none⟩,
 ⟨some 4, .mov (.tmp 94), none⟩])
 (.ret))
 (.skip)))
 (.seq
 (.reg [⟨some 95, .mov (.tmp 8), none⟩,
 ⟨some 96, .bin .add .int (.tmp 95) (.const (.int .i64 1)), none⟩,
 ⟨some 8, .mov (.tmp 96), none⟩])
 (.seq
 (.reg [⟨some 97, .mov (.tmp 10), none⟩,
 ⟨some 98, .bin .add .int (.tmp 97) (.const (.int .i64 1)), none⟩,
 ⟨some 10, .mov (.tmp 98), none⟩])
 (.seq
 (.reg [⟨some 99, .mov (.tmp 5), none⟩,
 ⟨some 100, .load false 1 (.global 0), none⟩,
 ⟨some 101, .bin .leq .int (.tmp 99) (.tmp 100), none⟩,
 ⟨some 102, .mov (.tmp 101), none⟩,
 ⟨some 103, .mov (.tmp 10), some (102, true)⟩,
 ⟨some 104, .mov (.tmp 8), some (102, true)⟩,
 ⟨some 105, .call (.func 31) [(.tmp 104)], some (102, true)⟩,
 ⟨some 106, .bin .gtr .int (.tmp 103) (.tmp 105), some (102, true)⟩,
 ⟨some 107, .pick (.tmp 102) (.tmp 106) (.const (.bool false)), none⟩])
 (.cond (.tmp 107)
 (.seq
 (.reg [⟨some 108, .mov (.tmp 0), none⟩,
 ⟨some 109, .mov (.tmp 8), none⟩,
 ⟨some 110, .sslice (.tmp 108) (some (.tmp 109)) none, none⟩,
 ⟨some 111, .mov (.tmp 1), none⟩,
 ⟨some 112, .call (.func 30) [(.tmp 110), (.tmp 111)], none⟩,
 ⟨some 12, .mov (.tmp 112), none⟩])
 (.seq
 (.seq
 (.reg [⟨some 113, .mov (.tmp 12), none⟩,
 ⟨some 114, .bin .geq .int (.tmp 113) (.const (.int .i64 0)), none⟩])
 (.cond (.tmp 114)
 (.seq
 (.reg [⟨some 115, .mov (.tmp 12), none⟩,
 ⟨some 116, .mov (.tmp 8), none⟩,
 ⟨some 117, .bin .add .int (.tmp 115) (.tmp 116), none⟩,
 ⟨some 4, .mov (.tmp 117), none⟩])
 (.ret))
 (.skip)))
 (.seq
 (.reg [⟨some 4, .mov (.const (.int .i64 (-1))), none⟩])
 (.ret))))
 (.seq
 (.reg [⟨some 118, .mov (.tmp 5), none⟩,
 ⟨some 119, .load false 1 (.global 0), none⟩,
 ⟨some 120, .bin .gtr .int (.tmp 118) (.tmp 119), none⟩,
 ⟨some 121, .mov (.tmp 120), none⟩,
 ⟨some 122, .mov (.tmp 10), some (121, true)⟩,
 ⟨some 123, .mov (.tmp 8), some (121, true)⟩,
 ⟨some 124, .bin .shr .int (.tmp 123) (.const (.int .u64 4)), some (121, true)⟩,
 ⟨some 125, .bin .add .int (.const (.int .i64 4)) (.tmp 124), some (121, true)⟩,
 ⟨some 126, .bin .geq .int (.tmp 122) (.tmp 125), some (121, true)⟩,
 ⟨some 127, .pick (.tmp 121) (.tmp 126) (.const (.bool false)), none⟩,
 ⟨some 128, .mov (.tmp 127), none⟩,
 ⟨some 129, .mov (.tmp 8), some (128, true)⟩,
 ⟨some 130, .mov (.tmp 9), some (128, true)⟩,
 ⟨some 131, .bin .lss .int (.tmp 129) (.tmp 130), some (128, true)⟩,
 ⟨some 132, .pick (.tmp 128) (.tmp 131) (.const (.bool false)), none⟩])
 (.cond (.tmp 132)
 (.seq
 (.reg [⟨some 133, .mov (.tmp 0), none⟩,
 ⟨some 134, .mov (.tmp 8), none⟩,
 ⟨some 135, .sslice (.tmp 133) (some (.tmp 134)) none, none⟩,
 ⟨some 136, .mov (.tmp 1), none⟩,
 ⟨some 137, .call (.func 32) [(.tmp 135), (.tmp 136)], none⟩,
 ⟨some 13, .mov (.tmp 137), none⟩])
 (.seq
 (.seq
 (.reg [⟨some 138, .mov (.tmp 13), none⟩,
 ⟨some 139, .bin .lss .int (.tmp 138) (.const (.int .i64 0)), none⟩])
 (.cond (.tmp 139)
 (.seq
 (.reg [⟨some 4, .mov (.const (.int .i64 (-1))), none⟩])
 (.ret))
 (.skip)))
 (.seq
 (.reg [⟨some 140, .mov (.tmp 8), none⟩,
 ⟨some 141, .mov (.tmp 13), none⟩,
 ⟨some 142, .bin .add .int (.tmp 140) (.tmp 141), none⟩,
 ⟨some 4, .mov (.tmp 142), none⟩])
 (.ret))))
 (.skip))))))))))
def ac28 : AC := .seq
 (.reg [⟨some 4, .mov (.const (.int .i64 0)), none⟩])
 (.seq
 (.reg [⟨some 14, .mov (.tmp 1), none⟩,
 ⟨some 15, .slen true (.tmp 14), none⟩,
 ⟨some 5, .mov (.tmp 15), none⟩])
 (.seq
 (.block 0
 (.seq
 (.reg [⟨some 17, .mov (.tmp 5), none⟩,
 ⟨some 18, .bin .eql .int (.tmp 17) (.const (.int .i64 0)), none⟩,
 ⟨some 19, .mov (.tmp 18), none⟩,
 ⟨some 20, .mov (.tmp 1), some (19, false)⟩,
 ⟨some 21, .mov (.tmp 0), some (19, false)⟩,
 ⟨some 22, .bin .eql .str (.tmp 20) (.tmp 21), some (19, false)⟩,
 ⟨some 23, .pick (.tmp 19) (.const (.bool true)) (.tmp 22), none⟩,
 ⟨some 16, .mov (.tmp 23), none⟩])
 (.cond (.tmp 16)
 (.seq
 (.reg [⟨some 4, .mov (.const (.int .i64 0)), none⟩])
 (.ret))
 (.seq
 (.reg [⟨some 25, .mov (.tmp 5), none⟩,
 ⟨some 26, .bin .eql .int (.tmp 25) (.const (.int .i64 1)), none⟩,
 ⟨some 24, .mov (.tmp 26), none⟩])
 (.cond (.tmp 24)
 (.seq
 (.reg [⟨some 27, .mov (.tmp 0), none⟩,
 ⟨some 28, .mov (.tmp 1), none⟩,
 ⟨some 29, .sindex (.tmp 28) (.const (.int .i64 0)), none⟩,
 ⟨some 30, .call (.func 29) [(.tmp 27), (.tmp 29)], none⟩,
 ⟨some 4, .mov (.tmp 30), none⟩])
 (.ret))
 (.seq
 (.reg [⟨some 32, .mov (.tmp 5), none⟩,
 ⟨some 33, .mov (.tmp 0), none⟩,
 ⟨some 34, .slen true (.tmp 33), none⟩,
 ⟨some 35, .bin .geq .int (.tmp 32) (.tmp 34), none⟩,
 ⟨some 31, .mov (.tmp 35), none⟩])
 (.cond (.tmp 31)
 (.seq
 (.reg [⟨some 4, .mov (.const (.int .i64 (-1))), none⟩])
 (.ret))
 (.seq
 (.reg [⟨some 37, .mov (.tmp 5), none⟩,
 ⟨some 38, .load false 1 (.global 0), none⟩,
 ⟨some 39, .bin .leq .int (.tmp 37) (.tmp 38), none⟩,
 ⟨some 40, .mov (.tmp 39), none⟩,
 ⟨some 41, .mov (.tmp 0), some (40, true)⟩,
 ⟨some 42, .slen true (.tmp 41), some (40, true)⟩,
 ⟨some 43, .bin .leq .int (.tmp 42) (.const (.int .i64 64)), some (40, true)⟩,
 ⟨some 44, .pick (.tmp 40) (.tmp 43) (.const (.bool false)), none⟩,
 ⟨some 36, .mov (.tmp 44), none⟩])
 (.cond (.tmp 36)
 (.seq
 (.reg [⟨some 45, .mov (.tmp 0), none⟩,
 ⟨some 46, .mov (.tmp 1), none⟩,
 ⟨some 47, .call (.func 30) [(.tmp 45), (.tmp 46)], none⟩,
 ⟨some 4, .mov (.tmp 47), none⟩])
 (.ret))
 (.skip))))))))))
 (.seq
 (.reg [⟨some 48, .mov (.tmp 1), none⟩,
 ⟨some 49, .sindex (.tmp 48) (.const (.int .i64 0)), none⟩,
 ⟨some 6, .mov (.tmp 49), none⟩])
 (.seq
 (.reg [⟨some 50, .mov (.tmp 1), none⟩,
 ⟨some 51, .sindex (.tmp 50) (.const (.int .i64 1)), none⟩,
 ⟨some 7, .mov (.tmp 51), none⟩])
 (.seq
 (.reg [⟨some 8, .mov (.const (.int .i64 0)), none⟩])
 (.seq
 (.reg [⟨some 52, .mov (.tmp 0), none⟩,
 ⟨some 53, .slen true (.tmp 52), none⟩,
 ⟨some 54, .mov (.tmp 5), none⟩,
 ⟨some 55, .bin .sub .int (.tmp 53) (.tmp 54), none⟩,
 ⟨some 56, .bin .add .int (.tmp 55) (.const (.int .i64 1)), none⟩,
 ⟨some 9, .mov (.tmp 56), none⟩])
 (.seq
 (.reg [⟨some 10, .mov (.const (.int .i64 0)), none⟩])
 (.seq
 (.block 1
 (.loop ac28_l0))
 (.seq
 (.reg [⟨some 4, .mov (.const (.int .i64 (-1))), none⟩])
 (.ret))))))))))
theorem fn28 : Fun Tryd.prog 28 143 ac28 [.tmp 4] := ⟨mixedP, Tryd.f28, _, Tryd.func28, rfl, by decide +kernel, rfl, by kernel_rfl, by kernel_rfl⟩
/- internal/stringslite.IndexByte -/
def ac29 : AC := .seq
 (.reg [⟨some 4, .mov (.const (.int .i64 0)), none⟩])
 (.seq
 (.reg [⟨some 5, .mov (.tmp 0), none⟩,
 ⟨some 6, .mov (.tmp 1), none⟩,
 ⟨some 7, .call (.func 33) [(.tmp 5), (.tmp 6)], none⟩,
 ⟨some 4, .mov (.tmp 7), none⟩])
 (.ret))
theorem fn29 : Fun Tryd.prog 29 8 ac29 [.tmp 4] := ⟨mixedP, Tryd.f29, _, Tryd.func29, rfl, by decide +kernel, rfl, by kernel_rfl, by kernel_rfl⟩
/- internal/bytealg.Cutover -/
def ac31 : AC := .seq
 (.reg [⟨some 2, .mov (.const (.int .i64 0)), none⟩])
 (.seq
 (.reg [⟨some 3, .mov (.tmp 0), none⟩,
 ⟨some 4, .bin .add .int (.tmp 3) (.const (.int .i64 16)), none⟩,
 ⟨some 5, .bin .quo .int (.tmp 4) (.const (.int .i64 8)), none⟩,
 ⟨some 2, .mov (.tmp 5), none⟩])
 (.ret))
theorem fn31 : Fun Tryd.prog 31 6 ac31 [.tmp 2] := ⟨mixedP, Tryd.f31, _, Tryd.func31, rfl, by decide +kernel, rfl, by kernel_rfl, by kernel_rfl⟩
/- internal/bytealg.IndexRabinKarp[string] -/
def ac32_l0 : AC := .seq
 (.seq
 (.reg [⟨some 18, .mov (.tmp 9), none⟩,
 ⟨some 19, .mov (.tmp 7), none⟩,
 ⟨some 20, .bin .lss .int (.tmp 18) (.tmp 19), none⟩])
 (.cond (.tmp 20)
 (.skip)
 (.exit 0)))
 (.seq
 (.block 1
 (.reg [⟨some 23, .mov (.tmp 8), none⟩,
 ⟨some 24, .bin .mul .int (.tmp 23) (.const (.int .u32 16777619)), none⟩,
 ⟨some 25, .mov (.tmp 0), none⟩,
 ⟨some 26, .mov (.tmp 9), none⟩,
 ⟨some 27, .sindex (.tmp 25) (.tmp 26), none⟩,
 ⟨some 28, .conv .u32 (.tmp 27), none⟩,
 ⟨some 29, .bin .add .int (.tmp 24) (.tmp 28), none⟩,
 ⟨some 8, .mov (.tmp 29), none⟩]))
 (.reg [⟨some 21, .mov (.tmp 9), none⟩,
 ⟨some 22, .bin .add .int (.tmp 21) (.const (.int .i64 1)), none⟩,
 ⟨some 9, .mov (.tmp 22), none⟩]))
def ac32_l1 : AC := .seq
 (.seq
 (.reg [⟨some 41, .mov (.tmp 10), none⟩,
 ⟨some 42, .mov (.tmp 0), none⟩,
 ⟨some 43, .slen true (.tmp 42), none⟩,
 ⟨some 44, .bin .lss .int (.tmp 41) (.tmp 43), none⟩])
 (.cond (.tmp 44)
 (.skip)
 (.exit 2)))
 (.block 3
 (.seq
 (.reg [⟨some 45, .mov (.tmp 8), none⟩,
 ⟨some 46, .bin .mul .int (.tmp 45) (.const (.int .u32 16777619)), none⟩,
 ⟨some 8, .mov (.tmp 46), none⟩])
 (.seq
 (.reg [⟨some 47, .mov (.tmp 8), none⟩,
 ⟨some 48, .mov (.tmp 0), none⟩,
 ⟨some 49, .mov (.tmp 10), none⟩,
 ⟨some 50, .sindex (.tmp 48) (.tmp 49), none⟩,
 ⟨some 51, .conv .u32 (.tmp 50), none⟩,
 ⟨some 52, .bin .add .int (.tmp 47) (.tmp 51), none⟩,
 ⟨some 8, .mov (.tmp 52), none⟩])
 (.seq
 (.reg [⟨some 53, .mov (.tmp 8), none⟩,
 ⟨some 54, .mov (.tmp 6), none⟩,
 ⟨some 55, .mov (.tmp 0), none⟩,
 ⟨some 56, .mov (.tmp 10), none⟩,
 ⟨some 57, .mov (.tmp 7), none⟩,
 ⟨some 58, .bin .sub .int (.tmp 56) (.tmp 57), none⟩,
 ⟨some 59, .sindex (.tmp 55) (.tmp 58), none⟩,
 ⟨some 60, .conv .u32 (.tmp 59), none⟩,
 ⟨some 61, .bin .mul .int (.tmp 54) (.tmp 60), none⟩,
 ⟨some 62, .bin .sub .int (.tmp 53) (.tmp 61), none⟩,
 ⟨some 8, .mov (.tmp 62), none⟩])
 (.seq
 (.reg [⟨some 63, .mov (.tmp 10), none⟩,
 ⟨some 64, .bin .add .int (.tmp 63) (.const (.int .i64 1)), none⟩,
 ⟨some 10, .mov (.tmp 64), none⟩])
 (.seq
 (.reg [⟨some 65, .mov (.tmp 8), none⟩,
 ⟨some 66, .mov (.tmp 5), none⟩,
 ⟨some 67, .bin .eql .int (.tmp 65) (.tmp 66), none⟩,
 ⟨some 68, .mov (.tmp 67), none⟩,
 ⟨some 69, .mov (.tmp 0), some (68, true)⟩,
 ⟨some 70, .mov (.tmp 10), some (68, true)⟩,
 ⟨some 71, .mov (.tmp 7), some (68, true)⟩,
 ⟨some 72, .bin .sub .int (.tmp 70) (.tmp 71), some (68, true)⟩,
 ⟨some 73, .mov (.tmp 10), some (68, true)⟩,
 ⟨some 74, .sslice (.tmp 69) (some (.tmp 72)) (some (.tmp 73)), some (68, true)⟩,
 ⟨some 75, .mov (.tmp 1), some (68, true)⟩,
 ⟨some 76, .bin .eql .str (.tmp 74) (.tmp 75), some (68, true)⟩,
 ⟨some 77, .pick (.tmp 68) (.tmp 76) (.const (.bool false)), none⟩])
 (.cond (.tmp 77)
 (.seq
 (.reg [⟨some 78, .mov (.tmp 10), none⟩,
 ⟨some 79, .mov (.tmp 7), none⟩,
 ⟨some 80, .bin .sub .int (.tmp 78) (.tmp 79), none⟩,
 ⟨some 4, .mov (.tmp 80), none⟩])
 (.ret))
 (.skip))))))))
def ac32 : AC := .seq
 (.reg [⟨some 4, .mov (.const (.int .i64 0)), none⟩])
 (.seq
 (.reg [⟨some 12, .mov (.tmp 1), none⟩,
 ⟨some 13, .call (.func 34) [(.tmp 12)], none⟩,
 ⟨some 11, .mov (.tmp 13), none⟩,
 ⟨some 14, .ext (.tmp 11) 0, none⟩,
 ⟨some 15, .ext (.tmp 11) 1, none⟩,
 ⟨some 5, .mov (.tmp 14), none⟩,
 ⟨some 6, .mov (.tmp 15), none⟩])
 (.seq
 (.reg [⟨some 16, .mov (.tmp 1), none⟩,
 ⟨some 17, .slen true (.tmp 16), none⟩,
 ⟨some 7, .mov (.tmp 17), none⟩])
 (.seq
 (.reg [⟨some 8, .mov (.const (.int .u32 0)), none⟩])
 (.seq
 (.seq
 (.reg [⟨some 9, .mov (.const (.int .i64 0)), none⟩])
 (.block 0
 (.loop ac32_l0)))
 (.seq
 (.seq
 (.reg [⟨some 30, .mov (.tmp 8), none⟩,
 ⟨some 31, .mov (.tmp 5), none⟩,
 ⟨some 32, .bin .eql .int (.tmp 30) (.tmp 31), none⟩,
 ⟨some 33, .mov (.tmp 32), none⟩,
 ⟨some 34, .mov (.tmp 0), some (33, true)⟩,
 ⟨some 35, .mov (.tmp 7), some (33, true)⟩,
 ⟨some 36, .sslice (.tmp 34) none (some (.tmp 35)), some (33, true)⟩,
 ⟨some 37, .mov (.tmp 1), some (33, true)⟩,
 ⟨some 38, .bin .eql .str (.tmp 36) (.tmp 37), some (33, true)⟩,
 ⟨some 39, .pick (.tmp 33) (.tmp 38) (.const (.bool false)), none⟩])
 (.cond (.tmp 39)
 (.seq
 (.reg [⟨some 4, .mov (.const (.int .i64 0)), none⟩])
 (.ret))
 (.skip)))
 (.seq
 (.seq
 (.reg [⟨some 40, .mov (.tmp 7), none⟩,
 ⟨some 10, .mov (.tmp 40), none⟩])
 (.block 2
 (.loop ac32_l1)))
 (.seq
 (.reg [⟨some 4, .mov (.const (.int .i64 (-1))), none⟩])
 (.ret))))))))
theorem fn32 : Fun Tryd.prog 32 81 ac32 [.tmp 4] := ⟨mixedP, Tryd.f32, _, Tryd.func32, rfl, by decide +kernel, rfl, by kernel_rfl, by kernel_rfl⟩
/- internal/bytealg.hashStr[string] -/
def ac34_l0 : AC := .seq
 (.seq
 (.reg [⟨some 9, .mov (.tmp 5), none⟩,
 ⟨some 10, .mov (.tmp 0), none⟩,
 ⟨some 11, .slen true (.tmp 10), none⟩,
 ⟨some 12, .bin .lss .int (.tmp 9) (.tmp 11), none⟩])
 (.cond (.tmp 12)
 (.skip)
 (.exit 0)))
 (.seq
 (.block 1
 (.reg [⟨some 15, .mov (.tmp 4), none⟩,
 ⟨some 16, .bin .mul .int (.tmp 15) (.const (.int .u32 16777619)), none⟩,
 ⟨some 17, .mov (.tmp 0), none⟩,
 ⟨some 18, .mov (.tmp 5), none⟩,
 ⟨some 19, .sindex (.tmp 17) (.tmp 18), none⟩,
 ⟨some 20, .conv .u32 (.tmp 19), none⟩,
 ⟨some 21, .bin .add .int (.tmp 16) (.tmp 20), none⟩,
 ⟨some 4, .mov (.tmp 21), none⟩]))
 (.reg [⟨some 13, .mov (.tmp 5), none⟩,
 ⟨some 14, .bin .add .int (.tmp 13) (.const (.int .i64 1)), none⟩,
 ⟨some 5, .mov (.tmp 14), none⟩]))
def ac34_l1 : AC := .seq
 (.seq
 (.reg [⟨some 24, .mov (.tmp 8), none⟩,
 ⟨some 25, .bin .gtr .int (.tmp 24) (.const (.int .i64 0)), none⟩])
 (.cond (.tmp 25)
 (.skip)
 (.exit 2)))
 (.seq
 (.block 3
 (.seq
 (.seq
 (.reg [⟨some 28, .mov (.tmp 8), none⟩,
 ⟨some 29, .bin .and .int (.tmp 28) (.const (.int .i64 1)), none⟩,
 ⟨some 30, .bin .neq .int (.tmp 29) (.const (.int .i64 0)), none⟩])
 (.cond (.tmp 30)
 (.reg [⟨some 31, .mov (.tmp 6), none⟩,
 ⟨some 32, .mov (.tmp 7), none⟩,
 ⟨some 33, .bin .mul .int (.tmp 31) (.tmp 32), none⟩,
 ⟨some 6, .mov (.tmp 33), none⟩])
 (.skip)))
 (.reg [⟨some 34, .mov (.tmp 7), none⟩,
 ⟨some 35, .mov (.tmp 7), none⟩,
 ⟨some 36, .bin .mul .int (.tmp 34) (.tmp 35), none⟩,
 ⟨some 7, .mov (.tmp 36), none⟩])))
 (.reg [⟨some 26, .mov (.tmp 8), none⟩,
 ⟨some 27, .bin .shr .int (.tmp 26) (.const (.int .u64 1)), none⟩,
 ⟨some 8, .mov (.tmp 27), none⟩]))
def ac34 : AC := .seq
 (.reg [⟨some 2, .mov (.const (.int .u32 0)), none⟩,
 ⟨some 3, .mov (.const (.int .u32 0)), none⟩])
 (.seq
 (.reg [⟨some 4, .mov (.const (.int .u32 0)), none⟩])
 (.seq
 (.seq
 (.reg [⟨some 5, .mov (.const (.int .i64 0)), none⟩])
 (.block 0
 (.loop ac34_l0)))
 (.seq
 (.reg [⟨some 6, .mov (.const (.int .u32 1)), none⟩,
 ⟨some 7, .mov (.const (.int .u32 16777619)), none⟩])
 (.seq
 (.seq
 (.reg [⟨some 22, .mov (.tmp 0), none⟩,
 ⟨some 23, .slen true (.tmp 22), none⟩,
 ⟨some 8, .mov (.tmp 23), none⟩])
 (.block 2
 (.loop ac34_l1)))
 (.seq
 (.reg [⟨some 37, .mov (.tmp 4), none⟩,
 ⟨some 38, .mov (.tmp 6), none⟩,
 ⟨some 2, .mov (.tmp 37), none⟩,
 ⟨some 3, .mov (.tmp 38), none⟩])
 (.ret))))))
theorem fn34 : Fun Tryd.prog 34 39 ac34 [.tmp 2, .tmp 3] := ⟨mixedP, Tryd.f34, _, Tryd.func34, rfl, by decide +kernel, rfl, by kernel_rfl, by kernel_rfl⟩
end Go.Proofs.YtgphapkpoamcgaaDoor
