/- The compact texts of the functions, printed by a program of mine (wip/tools/PrintFn.lean); each is shown to be what the translation compiles to. -/
import Derived.Test.YtbdoblgofddhdaaK2
import Derived.Test.YtbdoblgofddhdaaProg
set_option maxRecDepth 100000
namespace Go.Proofs.Ytbdoblgofddhdaa
open Go Go.Ab
theorem mixedU : Try.prog.follows .mixedOrders = true := by kernel_rfl
/- glossator/glossatorlaw2.NormalizeMatchesReference -/
def ac9_l0 : AC := .seq
 (.reg [⟨some 39, .bin .lss .int (.tmp 38) (.tmp 37), none⟩])
 (.seq
 (.cond (.tmp 39)
 (.skip)
 (.exit 0))
 (.seq
 (.block 1
 (.seq
 (.reg [⟨some 40, .iaddr 7 (.tmp 36) (.tmp 38), none⟩,
 ⟨some 41, .load true 7 (.tmp 40), none⟩,
 ⟨some 11, .alloc 40 7 [(.slice none 0 0), (.int .i64 0), (.int .i64 0), (.slice none 0 0), (.int .i64 0), (.slice none 0 0), (.slice none 0 0)], none⟩,
 ⟨none, .store 7 (.tmp 11) (.tmp 41), none⟩])
 (.seq
 (.reg [⟨some 43, .faddr 1 (.tmp 11), none⟩,
 ⟨some 44, .load true 3 (.tmp 43), none⟩,
 ⟨some 45, .call (.func 36) [(.tmp 44)], none⟩,
 ⟨some 42, .mov (.tmp 45), none⟩,
 ⟨some 46, .ext (.tmp 42) 0, none⟩,
 ⟨some 47, .ext (.tmp 42) 1, none⟩,
 ⟨some 12, .mov (.tmp 46), none⟩,
 ⟨some 13, .mov (.tmp 47), none⟩])
 (.seq
 (.reg [⟨some 48, .mov (.tmp 12), none⟩,
 ⟨some 49, .bin .gtr .int (.tmp 48) (.const (.int .i64 6)), none⟩,
 ⟨some 50, .mov (.tmp 49), none⟩,
 ⟨some 51, .faddr 5 (.tmp 11), some (50, false)⟩,
 ⟨some 52, .load false 1 (.tmp 51), some (50, false)⟩,
 ⟨some 53, .slen false (.tmp 52), some (50, false)⟩,
 ⟨some 54, .bin .gtr .int (.tmp 53) (.const (.int .i64 1)), some (50, false)⟩,
 ⟨some 55, .pick (.tmp 50) (.const (.bool true)) (.tmp 54), none⟩,
 ⟨some 56, .mov (.tmp 55), none⟩,
 ⟨some 57, .mov (.tmp 1), some (56, false)⟩,
 ⟨some 58, .slen false (.tmp 57), some (56, false)⟩,
 ⟨some 59, .bin .gtr .int (.tmp 58) (.const (.int .i64 12)), some (56, false)⟩,
 ⟨some 60, .pick (.tmp 56) (.const (.bool true)) (.tmp 59), none⟩,
 ⟨some 61, .mov (.tmp 60), none⟩,
 ⟨some 62, .faddr 1 (.tmp 11), some (61, false)⟩,
 ⟨some 63, .load true 3 (.tmp 62), some (61, false)⟩,
 ⟨some 64, .call (.func 37) [(.tmp 63)], some (61, false)⟩,
 ⟨some 65, .bin .gtr .int (.tmp 64) (.const (.int .i64 1)), some (61, false)⟩,
 ⟨some 66, .pick (.tmp 61) (.const (.bool true)) (.tmp 65), none⟩])
 (.cond (.tmp 66)
 (.seq
 (.reg [⟨some 8, .mov (.const (.bool true)), none⟩])
 (.ret))
 (.skip))))))
 (.reg [⟨some 67, .bin .add .int (.tmp 38) (.const (.int .i64 1)), none⟩,
 ⟨some 38, .mov (.tmp 67), none⟩])))
def ac9 : AC := .seq
 (.reg [⟨some 4, .box 50 3 (.tmp 0), none⟩,
 ⟨some 7, .box 26 3 (.tmp 3), none⟩,
 ⟨some 8, .mov (.const (.bool false)), none⟩])
 (.seq
 (.seq
 (.reg [⟨some 16, .call (.func 34) [], none⟩,
 ⟨some 17, .un .not (.tmp 16), none⟩])
 (.cond (.tmp 17)
 (.seq
 (.reg [⟨some 8, .mov (.const (.bool false)), none⟩])
 (.ret))
 (.skip)))
 (.seq
 (.reg [⟨some 18, .load true 3 (.tmp 4), none⟩,
 ⟨some 19, .mov (.tmp 1), none⟩,
 ⟨some 20, .mov (.tmp 2), none⟩,
 ⟨some 21, .load true 3 (.tmp 7), none⟩,
 ⟨some 22, .call (.func 30) [(.tmp 18), (.tmp 19), (.tmp 20), (.tmp 21)], none⟩,
 ⟨some 9, .alloc 26 3 [(.int .i64 0), (.int .i64 0), (.slice none 0 0)], none⟩,
 ⟨none, .store 3 (.tmp 9) (.tmp 22), none⟩])
 (.seq
 (.seq
 (.reg [⟨some 23, .mov (.tmp 1), none⟩,
 ⟨some 24, .slen false (.tmp 23), none⟩,
 ⟨some 25, .faddr 0 (.tmp 4), none⟩,
 ⟨some 26, .load false 1 (.tmp 25), none⟩,
 ⟨some 27, .slen false (.tmp 26), none⟩,
 ⟨some 28, .bin .neq .int (.tmp 24) (.tmp 27), none⟩])
 (.cond (.tmp 28)
 (.seq
 (.reg [⟨some 29, .load true 3 (.tmp 9), none⟩,
 ⟨some 30, .build [(.int .i64 0), (.int .i64 0), (.slice none 0 0)] [(0, 1), (1, 1), (2, 1)] [], none⟩,
 ⟨some 31, .call (.func 35) [(.tmp 29), (.tmp 30)], none⟩,
 ⟨some 8, .mov (.tmp 31), none⟩])
 (.ret))
 (.skip)))
 (.seq
 (.seq
 (.reg [⟨some 32, .load true 3 (.tmp 7), none⟩,
 ⟨some 33, .build [(.slice none 0 0), (.int .i64 0), (.int .i64 0), (.slice none 0 0), (.int .i64 0), (.slice none 0 0), (.slice none 0 0)] [(0, 1), (1, 3), (4, 1), (5, 1), (6, 1)] [(1, (.tmp 32))], none⟩,
 ⟨some 34, .bslice 40 7 [(.slice none 0 0), (.int .i64 0), (.int .i64 0), (.slice none 0 0), (.int .i64 0), (.slice none 0 0), (.slice none 0 0)] 1 [(0, (.tmp 33))], none⟩,
 ⟨some 35, .mov (.tmp 1), none⟩,
 ⟨some 36, .app 40 7 (.tmp 34) (.tmp 35), none⟩,
 ⟨some 37, .slen false (.tmp 36), none⟩,
 ⟨some 38, .mov (.const (.int .i64 0)), none⟩])
 (.block 0
 (.loop ac9_l0)))
 (.seq
 (.reg [⟨some 69, .load true 3 (.tmp 4), none⟩,
 ⟨some 70, .mov (.tmp 1), none⟩,
 ⟨some 71, .mov (.tmp 2), none⟩,
 ⟨some 72, .load true 3 (.tmp 7), none⟩,
 ⟨some 73, .call (.func 38) [(.tmp 69), (.tmp 70), (.tmp 71), (.tmp 72), (.const (.int .i64 0))], none⟩,
 ⟨some 68, .mov (.tmp 73), none⟩,
 ⟨some 74, .ext (.tmp 68) 0, none⟩,
 ⟨some 75, .ext (.tmp 68) 1, none⟩,
 ⟨some 14, .alloc 26 3 [(.int .i64 0), (.int .i64 0), (.slice none 0 0)], none⟩,
 ⟨none, .store 3 (.tmp 14) (.tmp 74), none⟩,
 ⟨some 15, .mov (.tmp 75), none⟩])
 (.seq
 (.seq
 (.reg [⟨some 76, .mov (.tmp 15), none⟩,
 ⟨some 77, .un .not (.tmp 76), none⟩,
 ⟨some 78, .mov (.tmp 77), none⟩,
 ⟨some 79, .load true 3 (.tmp 14), some (78, false)⟩,
 ⟨some 80, .call (.func 39) [(.tmp 79)], some (78, false)⟩,
 ⟨some 81, .bin .eql .int (.tmp 80) (.const (.int .i64 2)), some (78, false)⟩,
 ⟨some 82, .pick (.tmp 78) (.const (.bool true)) (.tmp 81), none⟩])
 (.cond (.tmp 82)
 (.reg [⟨some 83, .build [(.int .i64 0), (.int .i64 0), (.slice none 0 0)] [(0, 1), (1, 1), (2, 1)] [], none⟩,
 ⟨none, .store 3 (.tmp 14) (.tmp 83), none⟩])
 (.skip)))
 (.seq
 (.reg [⟨some 84, .load true 3 (.tmp 9), none⟩,
 ⟨some 85, .load true 3 (.tmp 14), none⟩,
 ⟨some 86, .call (.func 35) [(.tmp 84), (.tmp 85)], none⟩,
 ⟨some 8, .mov (.tmp 86), none⟩])
 (.ret))))))))
theorem fn9 : Fun Try.prog 9 87 ac9 [.tmp 8] := ⟨mixedU, Try.f9, _, Try.func9, rfl, by decide +kernel, rfl, by kernel_rfl, by kernel_rfl⟩
/- glossator/traits.Solve -/
def ac22 : AC := .seq
 (.reg [⟨some 6, .box 26 3 (.tmp 2), none⟩,
 ⟨some 8, .alloc 30 8 [(.int .i64 0), (.int .i64 0), (.slice none 0 0), (.int .i64 0), (.int .i64 0), (.int .i64 0), (.slice none 0 0), (.slice none 0 0)], none⟩,
 ⟨some 9, .mov (.const (.bool false)), none⟩])
 (.seq
 (.reg [⟨some 10, .mov (.tmp 0), none⟩,
 ⟨some 11, .mov (.tmp 1), none⟩,
 ⟨some 12, .build [(.slice none 0 0), (.slice none 0 0)] [(0, 1), (1, 1)] [(0, (.tmp 10)), (1, (.tmp 11))], none⟩,
 ⟨some 13, .load true 3 (.tmp 6), none⟩,
 ⟨some 14, .mov (.tmp 3), none⟩,
 ⟨some 15, .call (.func 77) [(.tmp 12), (.tmp 13), (.tmp 14), (.const (.int .i64 8))], none⟩,
 ⟨some 16, .ext (.tmp 15) 0, none⟩,
 ⟨some 17, .ext (.tmp 15) 1, none⟩,
 ⟨none, .store 8 (.tmp 8) (.tmp 16), none⟩,
 ⟨some 9, .mov (.tmp 17), none⟩])
 (.ret))
theorem fn22 : Fun Try.prog 22 18 ac22 [.cell 8 8 true, .tmp 9] := ⟨mixedU, Try.f22, _, Try.func22, rfl, by decide +kernel, rfl, by kernel_rfl, by kernel_rfl⟩
/- glossator/types.Equal -/
def ac24 : AC := .seq
 (.reg [⟨some 2, .box 26 3 (.tmp 0), none⟩,
 ⟨some 3, .box 26 3 (.tmp 1), none⟩,
 ⟨some 4, .mov (.const (.bool false)), none⟩])
 (.seq
 (.reg [⟨some 5, .faddr 0 (.tmp 2), none⟩,
 ⟨some 6, .load false 1 (.tmp 5), none⟩,
 ⟨some 7, .faddr 0 (.tmp 3), none⟩,
 ⟨some 8, .load false 1 (.tmp 7), none⟩,
 ⟨some 9, .bin .eql .int (.tmp 6) (.tmp 8), none⟩,
 ⟨some 10, .mov (.tmp 9), none⟩,
 ⟨some 11, .faddr 1 (.tmp 2), some (10, true)⟩,
 ⟨some 12, .load false 1 (.tmp 11), some (10, true)⟩,
 ⟨some 13, .faddr 1 (.tmp 3), some (10, true)⟩,
 ⟨some 14, .load false 1 (.tmp 13), some (10, true)⟩,
 ⟨some 15, .bin .eql .int (.tmp 12) (.tmp 14), some (10, true)⟩,
 ⟨some 16, .pick (.tmp 10) (.tmp 15) (.const (.bool false)), none⟩,
 ⟨some 17, .mov (.tmp 16), none⟩,
 ⟨some 18, .faddr 2 (.tmp 2), some (17, true)⟩,
 ⟨some 19, .load false 1 (.tmp 18), some (17, true)⟩,
 ⟨some 20, .faddr 2 (.tmp 3), some (17, true)⟩,
 ⟨some 21, .load false 1 (.tmp 20), some (17, true)⟩,
 ⟨some 22, .call (.func 79) [(.tmp 19), (.tmp 21), (.func 24)], some (17, true)⟩,
 ⟨some 23, .pick (.tmp 17) (.tmp 22) (.const (.bool false)), none⟩,
 ⟨some 4, .mov (.tmp 23), none⟩])
 (.ret))
theorem fn24 : Fun Try.prog 24 24 ac24 [.tmp 4] := ⟨mixedU, Try.f24, _, Try.func24, rfl, by decide +kernel, rfl, by kernel_rfl, by kernel_rfl⟩
/- glossator/glossatorref2.SearchProof -/
def ac27_l0 : AC := .seq
 (.reg [⟨some 42, .bin .lss .int (.tmp 41) (.tmp 40), none⟩])
 (.seq
 (.cond (.tmp 42)
 (.skip)
 (.exit 0))
 (.seq
 (.block 1
 (.seq
 (.reg [⟨some 43, .mov (.tmp 41), none⟩,
 ⟨some 44, .iaddr 4 (.tmp 39) (.tmp 41), none⟩,
 ⟨some 45, .load true 4 (.tmp 44), none⟩,
 ⟨some 14, .alloc 43 4 [(.int .i64 0), (.int .i64 0), (.slice none 0 0), (.int .i64 0)], none⟩,
 ⟨some 13, .mov (.tmp 43), none⟩,
 ⟨none, .store 4 (.tmp 14) (.tmp 45), none⟩])
 (.seq
 (.reg [⟨some 46, .faddr 3 (.tmp 14), none⟩,
 ⟨some 47, .load false 1 (.tmp 46), none⟩,
 ⟨some 48, .mov (.tmp 3), none⟩,
 ⟨some 49, .bin .eql .int (.tmp 47) (.tmp 48), none⟩,
 ⟨some 50, .mov (.tmp 49), none⟩,
 ⟨some 51, .faddr 0 (.tmp 14), some (50, true)⟩,
 ⟨some 52, .load true 3 (.tmp 51), some (50, true)⟩,
 ⟨some 53, .load true 3 (.tmp 7), some (50, true)⟩,
 ⟨some 54, .call (.func 35) [(.tmp 52), (.tmp 53)], some (50, true)⟩,
 ⟨some 55, .pick (.tmp 50) (.tmp 54) (.const (.bool false)), none⟩])
 (.cond (.tmp 55)
 (.seq
 (.reg [⟨some 56, .load true 3 (.tmp 7), none⟩,
 ⟨some 57, .mov (.tmp 3), none⟩,
 ⟨some 58, .mov (.tmp 13), none⟩,
 ⟨some 59, .build [(.int .i64 0), (.int .i64 0), (.slice none 0 0), (.int .i64 0), (.int .i64 0), (.int .i64 0), (.slice none 0 0), (.slice none 0 0)] [(0, 3), (3, 1), (4, 1), (5, 1), (6, 1), (7, 1)] [(0, (.tmp 56)), (1, (.tmp 57)), (2, (.const (.int .i64 (-1)))), (3, (.tmp 58))], none⟩,
 ⟨none, .store 8 (.tmp 10) (.tmp 59), none⟩,
 ⟨some 11, .mov (.const (.bool true)), none⟩])
 (.ret))
 (.skip)))))
 (.reg [⟨some 60, .bin .add .int (.tmp 41) (.const (.int .i64 1)), none⟩,
 ⟨some 41, .mov (.tmp 60), none⟩])))
def ac27_l1 : AC := .seq
 (.reg [⟨some 85, .bin .lss .int (.tmp 84) (.tmp 83), none⟩])
 (.seq
 (.cond (.tmp 85)
 (.skip)
 (.exit 4))
 (.seq
 (.block 5
 (.seq
 (.reg [⟨some 86, .iaddr 1 (.tmp 82) (.tmp 84), none⟩,
 ⟨some 87, .load false 1 (.tmp 86), none⟩,
 ⟨some 20, .mov (.tmp 87), none⟩])
 (.reg [⟨some 88, .mov (.tmp 18), none⟩,
 ⟨some 89, .mov (.tmp 88), none⟩,
 ⟨some 90, .faddr 1 (.tmp 16), some (89, true)⟩,
 ⟨some 91, .load true 3 (.tmp 90), some (89, true)⟩,
 ⟨some 92, .mov (.tmp 20), some (89, true)⟩,
 ⟨some 93, .call (.func 85) [(.tmp 91), (.tmp 92)], some (89, true)⟩,
 ⟨some 94, .pick (.tmp 89) (.tmp 93) (.const (.bool false)), none⟩,
 ⟨some 18, .mov (.tmp 94), none⟩])))
 (.reg [⟨some 95, .bin .add .int (.tmp 84) (.const (.int .i64 1)), none⟩,
 ⟨some 84, .mov (.tmp 95), none⟩])))
def ac27_l2 : AC := .seq
 (.reg [⟨some 112, .bin .lss .int (.tmp 111) (.tmp 110), none⟩])
 (.seq
 (.cond (.tmp 112)
 (.skip)
 (.exit 6))
 (.seq
 (.block 7
 (.seq
 (.reg [⟨some 113, .iaddr 4 (.tmp 109) (.tmp 111), none⟩,
 ⟨some 114, .load true 4 (.tmp 113), none⟩,
 ⟨some 23, .alloc 43 4 [(.int .i64 0), (.int .i64 0), (.slice none 0 0), (.int .i64 0)], none⟩,
 ⟨none, .store 4 (.tmp 23) (.tmp 114), none⟩])
 (.seq
 (.dreg [⟨some 116, .mov (.tmp 0), none⟩,
 ⟨some 117, .mov (.tmp 1), none⟩,
 ⟨some 118, .faddr 0 (.tmp 23), none⟩,
 ⟨some 119, .load true 3 (.tmp 118), none⟩,
 ⟨some 120, .faddr 0 (.tmp 16), none⟩,
 ⟨some 121, .load false 1 (.tmp 120), none⟩,
 ⟨some 122, .mov (.tmp 17), none⟩,
 ⟨some 123, .call (.func 86) [(.tmp 119), (.tmp 121), (.tmp 122)], none⟩,
 ⟨some 124, .faddr 3 (.tmp 23), none⟩,
 ⟨some 125, .load false 1 (.tmp 124), none⟩,
 ⟨some 126, .mov (.tmp 4), none⟩,
 ⟨some 127, .bin .sub .int (.tmp 126) (.const (.int .i64 1)), none⟩,
 ⟨some 128, .call (.func 27) [(.tmp 116), (.tmp 117), (.tmp 123), (.tmp 125), (.tmp 127)], none⟩,
 ⟨some 115, .mov (.tmp 128), none⟩,
 ⟨some 129, .ext (.tmp 115) 0, none⟩,
 ⟨some 130, .ext (.tmp 115) 1, none⟩,
 ⟨some 24, .alloc 30 8 [(.int .i64 0), (.int .i64 0), (.slice none 0 0), (.int .i64 0), (.int .i64 0), (.int .i64 0), (.slice none 0 0), (.slice none 0 0)], none⟩,
 ⟨none, .store 8 (.tmp 24) (.tmp 129), none⟩,
 ⟨some 25, .mov (.tmp 130), none⟩]
 [[], [], [], [2], [], [4], [], [3, 5, 6], [], [8], [], [10], [0, 1, 7, 9, 11, 7], [12], [13], [13], [], [16, 14, 12, 0, 1, 2, 3, 4, 5, 6, 7, 8, 9, 10, 11, 12, 13, 14, 16], [15, 17, 0, 1, 2, 3, 4, 5, 6, 7, 8, 9, 10, 11, 12, 13, 14, 15, 16, 17]]
 [[0], [1], [23], [118], [16], [120], [17], [119, 121, 122], [23], [124], [4], [126], [116, 117, 123, 125, 127], [128], [115], [115], [], [24, 129], [130]])
 (.seq
 (.seq
 (.reg [⟨some 131, .mov (.tmp 25), none⟩,
 ⟨some 132, .un .not (.tmp 131), none⟩])
 (.cond (.tmp 132)
 (.seq
 (.reg [⟨some 133, .load true 8 (.tmp 12), none⟩,
 ⟨none, .store 8 (.tmp 10) (.tmp 133), none⟩,
 ⟨some 11, .mov (.const (.bool false)), none⟩])
 (.ret))
 (.skip)))
 (.reg [⟨some 134, .faddr 7 (.tmp 21), none⟩,
 ⟨some 135, .load false 1 (.tmp 134), none⟩,
 ⟨some 136, .load true 8 (.tmp 24), none⟩,
 ⟨some 137, .bslice 30 8 [(.int .i64 0), (.int .i64 0), (.slice none 0 0), (.int .i64 0), (.int .i64 0), (.int .i64 0), (.slice none 0 0), (.slice none 0 0)] 1 [(0, (.tmp 136))], none⟩,
 ⟨some 138, .app 30 8 (.tmp 135) (.tmp 137), none⟩,
 ⟨some 139, .faddr 7 (.tmp 21), none⟩,
 ⟨none, .store 1 (.tmp 139) (.tmp 138), none⟩])))))
 (.reg [⟨some 140, .bin .add .int (.tmp 111) (.const (.int .i64 1)), none⟩,
 ⟨some 111, .mov (.tmp 140), none⟩])))
def ac27_l3 : AC := .seq
 (.reg [⟨some 64, .bin .lss .int (.tmp 63) (.tmp 62), none⟩])
 (.seq
 (.cond (.tmp 64)
 (.skip)
 (.exit 2))
 (.seq
 (.block 3
 (.seq
 (.reg [⟨some 65, .mov (.tmp 63), none⟩,
 ⟨some 66, .iaddr 7 (.tmp 61) (.tmp 63), none⟩,
 ⟨some 67, .load true 7 (.tmp 66), none⟩,
 ⟨some 16, .alloc 40 7 [(.slice none 0 0), (.int .i64 0), (.int .i64 0), (.slice none 0 0), (.int .i64 0), (.slice none 0 0), (.slice none 0 0)], none⟩,
 ⟨some 15, .mov (.tmp 65), none⟩,
 ⟨none, .store 7 (.tmp 16) (.tmp 67), none⟩])
 (.seq
 (.seq
 (.reg [⟨some 68, .faddr 4 (.tmp 16), none⟩,
 ⟨some 69, .load false 1 (.tmp 68), none⟩,
 ⟨some 70, .mov (.tmp 3), none⟩,
 ⟨some 71, .bin .neq .int (.tmp 69) (.tmp 70), none⟩])
 (.cond (.tmp 71)
 (.exit 3)
 (.skip)))
 (.seq
 (.reg [⟨some 73, .load true 3 (.tmp 7), none⟩,
 ⟨some 74, .faddr 1 (.tmp 16), none⟩,
 ⟨some 75, .load true 3 (.tmp 74), none⟩,
 ⟨some 76, .faddr 0 (.tmp 16), none⟩,
 ⟨some 77, .load false 1 (.tmp 76), none⟩,
 ⟨some 78, .call (.func 84) [(.tmp 73), (.tmp 75), (.tmp 77)], none⟩,
 ⟨some 72, .mov (.tmp 78), none⟩,
 ⟨some 79, .ext (.tmp 72) 0, none⟩,
 ⟨some 80, .ext (.tmp 72) 1, none⟩,
 ⟨some 17, .mov (.tmp 79), none⟩,
 ⟨some 18, .mov (.tmp 80), none⟩])
 (.seq
 (.seq
 (.reg [⟨some 81, .faddr 0 (.tmp 16), none⟩,
 ⟨some 82, .load false 1 (.tmp 81), none⟩,
 ⟨some 83, .slen false (.tmp 82), none⟩,
 ⟨some 84, .mov (.const (.int .i64 0)), none⟩])
 (.block 4
 (.loop ac27_l1)))
 (.seq
 (.seq
 (.reg [⟨some 96, .mov (.tmp 18), none⟩,
 ⟨some 97, .un .not (.tmp 96), none⟩])
 (.cond (.tmp 97)
 (.exit 3)
 (.skip)))
 (.seq
 (.seq
 (.reg [⟨some 98, .faddr 5 (.tmp 16), none⟩,
 ⟨some 99, .load false 1 (.tmp 98), none⟩,
 ⟨some 100, .slen false (.tmp 99), none⟩,
 ⟨some 101, .bin .gtr .int (.tmp 100) (.const (.int .i64 4)), none⟩])
 (.cond (.tmp 101)
 (.seq
 (.reg [⟨some 102, .load true 8 (.tmp 12), none⟩,
 ⟨none, .store 8 (.tmp 10) (.tmp 102), none⟩,
 ⟨some 11, .mov (.const (.bool false)), none⟩])
 (.ret))
 (.skip)))
 (.seq
 (.reg [⟨some 103, .load true 3 (.tmp 7), none⟩,
 ⟨some 104, .mov (.tmp 3), none⟩,
 ⟨some 105, .mov (.tmp 15), none⟩,
 ⟨some 106, .mov (.tmp 17), none⟩,
 ⟨some 107, .build [(.int .i64 0), (.int .i64 0), (.slice none 0 0), (.int .i64 0), (.int .i64 0), (.int .i64 0), (.slice none 0 0), (.slice none 0 0)] [(0, 3), (3, 1), (4, 1), (5, 1), (6, 1), (7, 1)] [(0, (.tmp 103)), (1, (.tmp 104)), (2, (.tmp 105)), (3, (.const (.int .i64 (-1)))), (4, (.tmp 106))], none⟩,
 ⟨some 21, .alloc 30 8 [(.int .i64 0), (.int .i64 0), (.slice none 0 0), (.int .i64 0), (.int .i64 0), (.int .i64 0), (.slice none 0 0), (.slice none 0 0)], none⟩,
 ⟨none, .store 8 (.tmp 21) (.tmp 107), none⟩])
 (.seq
 (.seq
 (.reg [⟨some 108, .faddr 5 (.tmp 16), none⟩,
 ⟨some 109, .load false 1 (.tmp 108), none⟩,
 ⟨some 110, .slen false (.tmp 109), none⟩,
 ⟨some 111, .mov (.const (.int .i64 0)), none⟩])
 (.block 6
 (.loop ac27_l2)))
 (.seq
 (.reg [⟨some 141, .load true 8 (.tmp 21), none⟩,
 ⟨none, .store 8 (.tmp 10) (.tmp 141), none⟩,
 ⟨some 11, .mov (.const (.bool true)), none⟩])
 (.ret)))))))))))
 (.reg [⟨some 142, .bin .add .int (.tmp 63) (.const (.int .i64 1)), none⟩,
 ⟨some 63, .mov (.tmp 142), none⟩])))
def ac27 : AC := .seq
 (.reg [⟨some 7, .box 26 3 (.tmp 2), none⟩,
 ⟨some 10, .alloc 30 8 [(.int .i64 0), (.int .i64 0), (.slice none 0 0), (.int .i64 0), (.int .i64 0), (.int .i64 0), (.slice none 0 0), (.slice none 0 0)], none⟩,
 ⟨some 11, .mov (.const (.bool false)), none⟩])
 (.seq
 (.reg [⟨some 26, .build [(.int .i64 0), (.int .i64 0), (.slice none 0 0), (.int .i64 0), (.int .i64 0), (.int .i64 0), (.slice none 0 0), (.slice none 0 0)] [(0, 3), (3, 1), (4, 1), (5, 1), (6, 1), (7, 1)] [], none⟩,
 ⟨some 12, .alloc 30 8 [(.int .i64 0), (.int .i64 0), (.slice none 0 0), (.int .i64 0), (.int .i64 0), (.int .i64 0), (.slice none 0 0), (.slice none 0 0)], none⟩,
 ⟨none, .store 8 (.tmp 12) (.tmp 26), none⟩])
 (.seq
 (.seq
 (.reg [⟨some 27, .mov (.tmp 4), none⟩,
 ⟨some 28, .bin .lss .int (.tmp 27) (.const (.int .i64 1)), none⟩,
 ⟨some 29, .mov (.tmp 28), none⟩,
 ⟨some 30, .mov (.tmp 3), some (29, false)⟩,
 ⟨some 31, .bin .lss .int (.tmp 30) (.const (.int .i64 0)), some (29, false)⟩,
 ⟨some 32, .pick (.tmp 29) (.const (.bool true)) (.tmp 31), none⟩,
 ⟨some 33, .mov (.tmp 32), none⟩,
 ⟨some 34, .faddr 0 (.tmp 7), some (33, false)⟩,
 ⟨some 35, .load false 1 (.tmp 34), some (33, false)⟩,
 ⟨some 36, .bin .eql .int (.tmp 35) (.const (.int .i64 0)), some (33, false)⟩,
 ⟨some 37, .pick (.tmp 33) (.const (.bool true)) (.tmp 36), none⟩])
 (.cond (.tmp 37)
 (.seq
 (.reg [⟨some 38, .load true 8 (.tmp 12), none⟩,
 ⟨none, .store 8 (.tmp 10) (.tmp 38), none⟩,
 ⟨some 11, .mov (.const (.bool false)), none⟩])
 (.ret))
 (.skip)))
 (.seq
 (.seq
 (.reg [⟨some 39, .mov (.tmp 1), none⟩,
 ⟨some 40, .slen false (.tmp 39), none⟩,
 ⟨some 41, .mov (.const (.int .i64 0)), none⟩])
 (.block 0
 (.loop ac27_l0)))
 (.seq
 (.seq
 (.reg [⟨some 61, .mov (.tmp 0), none⟩,
 ⟨some 62, .slen false (.tmp 61), none⟩,
 ⟨some 63, .mov (.const (.int .i64 0)), none⟩])
 (.block 2
 (.loop ac27_l3)))
 (.seq
 (.reg [⟨some 143, .load true 8 (.tmp 12), none⟩,
 ⟨none, .store 8 (.tmp 10) (.tmp 143), none⟩,
 ⟨some 11, .mov (.const (.bool false)), none⟩])
 (.ret))))))
theorem fn27 : Fun Try.prog 27 144 ac27 [.cell 10 8 true, .tmp 11] := ⟨mixedU, Try.f27, _, Try.func27, rfl, by decide +kernel, rfl, by kernel_rfl, by kernel_rfl⟩
/- glossator/assoctypes.Normalize -/
def ac30 : AC := .seq
 (.reg [⟨some 4, .box 50 3 (.tmp 0), none⟩,
 ⟨some 7, .box 26 3 (.tmp 3), none⟩,
 ⟨some 8, .alloc 26 3 [(.int .i64 0), (.int .i64 0), (.slice none 0 0)], none⟩])
 (.seq
 (.seq
 (.reg [⟨some 10, .mov (.tmp 1), none⟩,
 ⟨some 11, .slen false (.tmp 10), none⟩,
 ⟨some 12, .faddr 0 (.tmp 4), none⟩,
 ⟨some 13, .load false 1 (.tmp 12), none⟩,
 ⟨some 14, .slen false (.tmp 13), none⟩,
 ⟨some 15, .bin .neq .int (.tmp 11) (.tmp 14), none⟩])
 (.cond (.tmp 15)
 (.seq
 (.reg [⟨some 16, .build [(.int .i64 0), (.int .i64 0), (.slice none 0 0)] [(0, 1), (1, 1), (2, 1)] [], none⟩,
 ⟨none, .store 3 (.tmp 8) (.tmp 16), none⟩])
 (.ret))
 (.skip)))
 (.seq
 (.reg [⟨some 17, .load true 3 (.tmp 4), none⟩,
 ⟨some 18, .mov (.tmp 1), none⟩,
 ⟨some 19, .mov (.tmp 2), none⟩,
 ⟨some 20, .build [(.slice none 0 0), (.slice none 0 0), (.slice none 0 0), (.slice none 0 0), (.slice none 0 0), (.bool false)] [(0, 3), (3, 1), (4, 1), (5, 1)] [(0, (.tmp 17)), (1, (.tmp 18)), (2, (.tmp 19))], none⟩,
 ⟨some 21, .box 119 6 (.tmp 20), none⟩,
 ⟨some 9, .mov (.tmp 21), none⟩])
 (.seq
 (.reg [⟨some 22, .mov (.tmp 9), none⟩,
 ⟨some 23, .load true 3 (.tmp 7), none⟩,
 ⟨some 24, .call (.func 89) [(.tmp 22), (.tmp 23), (.const (.int .i64 8))], none⟩,
 ⟨none, .store 3 (.tmp 7) (.tmp 24), none⟩])
 (.seq
 (.seq
 (.reg [⟨some 25, .mov (.tmp 9), none⟩,
 ⟨some 26, .nilc (.tmp 25), none⟩,
 ⟨some 27, .faddr 5 (.tmp 26), none⟩,
 ⟨some 28, .load false 1 (.tmp 27), none⟩,
 ⟨some 29, .mov (.tmp 28), none⟩,
 ⟨some 30, .load true 3 (.tmp 7), some (29, false)⟩,
 ⟨some 31, .call (.func 32) [(.tmp 30)], some (29, false)⟩,
 ⟨some 32, .bin .eql .int (.tmp 31) (.const (.int .i64 2)), some (29, false)⟩,
 ⟨some 33, .pick (.tmp 29) (.const (.bool true)) (.tmp 32), none⟩])
 (.cond (.tmp 33)
 (.seq
 (.reg [⟨some 34, .build [(.int .i64 0), (.int .i64 0), (.slice none 0 0)] [(0, 1), (1, 1), (2, 1)] [], none⟩,
 ⟨none, .store 3 (.tmp 8) (.tmp 34), none⟩])
 (.ret))
 (.skip)))
 (.seq
 (.reg [⟨some 35, .load true 3 (.tmp 7), none⟩,
 ⟨none, .store 3 (.tmp 8) (.tmp 35), none⟩])
 (.ret))))))
theorem fn30 : Fun Try.prog 30 36 ac30 [.cell 8 3 true] := ⟨mixedU, Try.f30, _, Try.func30, rfl, by decide +kernel, rfl, by kernel_rfl, by kernel_rfl⟩
/- glossator/types.Validate -/
def ac32 : AC := .seq
 (.reg [⟨some 1, .box 26 3 (.tmp 0), none⟩,
 ⟨some 2, .mov (.const (.int .i64 0)), none⟩])
 (.seq
 (.seq
 (.reg [⟨some 6, .load true 3 (.tmp 1), none⟩,
 ⟨some 7, .call (.func 91) [(.tmp 6), (.const (.int .i64 100))], none⟩,
 ⟨some 5, .mov (.tmp 7), none⟩,
 ⟨some 8, .ext (.tmp 5) 0, none⟩,
 ⟨some 9, .ext (.tmp 5) 1, none⟩,
 ⟨some 3, .mov (.tmp 8), none⟩,
 ⟨some 4, .mov (.tmp 9), none⟩])
 (.seq
 (.reg [⟨some 10, .mov (.tmp 3), none⟩,
 ⟨some 11, .bin .gtr .int (.tmp 10) (.const (.int .i64 100)), none⟩,
 ⟨some 12, .mov (.tmp 11), none⟩,
 ⟨some 13, .mov (.tmp 4), some (12, false)⟩,
 ⟨some 14, .bin .gtr .int (.tmp 13) (.const (.int .i64 12)), some (12, false)⟩,
 ⟨some 15, .pick (.tmp 12) (.const (.bool true)) (.tmp 14), none⟩])
 (.cond (.tmp 15)
 (.seq
 (.reg [⟨some 2, .mov (.const (.int .i64 2)), none⟩])
 (.ret))
 (.skip))))
 (.seq
 (.seq
 (.reg [⟨some 16, .load true 3 (.tmp 1), none⟩,
 ⟨some 17, .call (.func 92) [(.tmp 16)], none⟩,
 ⟨some 18, .un .not (.tmp 17), none⟩])
 (.cond (.tmp 18)
 (.seq
 (.reg [⟨some 2, .mov (.const (.int .i64 3)), none⟩])
 (.ret))
 (.skip)))
 (.seq
 (.reg [⟨some 2, .mov (.const (.int .i64 0)), none⟩])
 (.ret))))
theorem fn32 : Fun Try.prog 32 19 ac32 [.tmp 2] := ⟨mixedU, Try.f32, _, Try.func32, rfl, by decide +kernel, rfl, by kernel_rfl, by kernel_rfl⟩
/- glossator/glossatorlaw2.assoctypesWork -/
def ac34 : AC := .seq
 (.reg [⟨some 0, .mov (.const (.bool false)), none⟩])
 (.seq
 (.reg [⟨some 7, .call (.func 93) [], none⟩,
 ⟨some 6, .mov (.tmp 7), none⟩,
 ⟨some 8, .ext (.tmp 6) 0, none⟩,
 ⟨some 9, .ext (.tmp 6) 1, none⟩,
 ⟨some 1, .alloc 50 3 [(.slice none 0 0), (.slice none 0 0), (.slice none 0 0)], none⟩,
 ⟨none, .store 3 (.tmp 1) (.tmp 8), none⟩,
 ⟨some 2, .mov (.tmp 9), none⟩])
 (.seq
 (.dreg [⟨some 10, .load true 3 (.tmp 1), none⟩,
 ⟨some 11, .mov (.tmp 2), none⟩,
 ⟨some 12, .call (.func 82) [], none⟩,
 ⟨some 13, .bslice 26 3 [(.int .i64 0), (.int .i64 0), (.slice none 0 0)] 1 [(0, (.tmp 12))], none⟩,
 ⟨some 14, .call (.func 81) [(.const (.int .i64 10)), (.const (.int .i64 1)), (.tmp 13)], none⟩,
 ⟨some 15, .bslice 26 3 [(.int .i64 0), (.int .i64 0), (.slice none 0 0)] 1 [(0, (.tmp 14))], none⟩,
 ⟨some 16, .call (.func 81) [(.const (.int .i64 8)), (.const (.int .i64 0)), (.tmp 15)], none⟩,
 ⟨some 17, .call (.func 30) [(.tmp 10), (.tmp 11), (.const (.slice none 0 0)), (.tmp 16)], none⟩,
 ⟨some 3, .alloc 26 3 [(.int .i64 0), (.int .i64 0), (.slice none 0 0)], none⟩,
 ⟨none, .store 3 (.tmp 3) (.tmp 17), none⟩]
 [[], [], [], [2], [3, 2], [4], [5, 4], [0, 1, 6, 6], [], [8, 7, 7, 0, 1, 2, 3, 4, 5, 6, 7, 8]]
 [[1], [2], [], [12], [13], [14], [15], [10, 11, 16], [], [3, 17]])
 (.seq
 (.reg [⟨some 18, .call (.func 94) [(.const (.int .i64 7))], none⟩,
 ⟨some 19, .bslice 26 3 [(.int .i64 0), (.int .i64 0), (.slice none 0 0)] 1 [(0, (.tmp 18))], none⟩,
 ⟨some 20, .call (.func 81) [(.const (.int .i64 10)), (.const (.int .i64 1)), (.tmp 19)], none⟩,
 ⟨some 4, .alloc 26 3 [(.int .i64 0), (.int .i64 0), (.slice none 0 0)], none⟩,
 ⟨none, .store 3 (.tmp 4) (.tmp 20), none⟩])
 (.seq
 (.dreg [⟨some 21, .load true 3 (.tmp 1), none⟩,
 ⟨some 22, .mov (.tmp 2), none⟩,
 ⟨some 23, .call (.func 94) [(.const (.int .i64 7))], none⟩,
 ⟨some 24, .build [(.int .i64 0), (.int .i64 0), (.slice none 0 0), (.int .i64 0)] [(0, 3), (3, 1)] [(0, (.tmp 23))], none⟩,
 ⟨some 25, .bslice 43 4 [(.int .i64 0), (.int .i64 0), (.slice none 0 0), (.int .i64 0)] 1 [(0, (.tmp 24))], none⟩,
 ⟨some 26, .load true 3 (.tmp 4), none⟩,
 ⟨some 27, .call (.func 30) [(.tmp 21), (.tmp 22), (.tmp 25), (.tmp 26)], none⟩,
 ⟨some 5, .alloc 26 3 [(.int .i64 0), (.int .i64 0), (.slice none 0 0)], none⟩,
 ⟨none, .store 3 (.tmp 5) (.tmp 27), none⟩]
 [[], [], [], [2], [3], [], [0, 1, 4, 5, 2], [], [7, 6, 6, 0, 1, 2, 3, 4, 5, 6, 7]]
 [[1], [2], [], [23], [24], [4], [21, 22, 25, 26], [], [5, 27]])
 (.seq
 (.dreg [⟨some 28, .load true 3 (.tmp 3), none⟩,
 ⟨some 29, .call (.func 81) [(.const (.int .i64 4)), (.const (.int .i64 0)), (.const (.slice none 0 0))], none⟩,
 ⟨some 30, .bslice 26 3 [(.int .i64 0), (.int .i64 0), (.slice none 0 0)] 1 [(0, (.tmp 29))], none⟩,
 ⟨some 31, .call (.func 81) [(.const (.int .i64 8)), (.const (.int .i64 0)), (.tmp 30)], none⟩,
 ⟨some 32, .call (.func 24) [(.tmp 28), (.tmp 31)], none⟩,
 ⟨some 33, .mov (.tmp 32), none⟩,
 ⟨some 34, .load true 3 (.tmp 5), some (33, true)⟩,
 ⟨some 35, .load true 3 (.tmp 4), some (33, true)⟩,
 ⟨some 36, .call (.func 24) [(.tmp 34), (.tmp 35)], some (33, true)⟩,
 ⟨some 37, .pick (.tmp 33) (.tmp 36) (.const (.bool false)), none⟩,
 ⟨some 0, .mov (.tmp 37), none⟩]
 [[], [], [1], [2, 1], [0, 3, 3], [4, 4], [5], [5], [6, 7, 5, 5], [5, 8], [9, 8, 0, 1, 2, 3, 4, 5, 6, 7, 8, 9]]
 [[3], [], [29], [30], [28, 31], [32], [5, 33], [4, 33], [34, 35, 33], [33, 36], [37]])
 (.ret))))))
theorem fn34 : Fun Try.prog 34 38 ac34 [.tmp 0] := ⟨mixedU, Try.f34, _, Try.func34, rfl, by decide +kernel, rfl, by kernel_rfl, by kernel_rfl⟩
/- glossator/glossatorref2.TypesEqual -/
def ac35_l0 : AC := .seq
 (.reg [⟨some 31, .bin .lss .int (.tmp 30) (.tmp 29), none⟩])
 (.seq
 (.cond (.tmp 31)
 (.skip)
 (.exit 0))
 (.seq
 (.block 1
 (.seq
 (.reg [⟨some 32, .mov (.tmp 30), none⟩,
 ⟨some 5, .mov (.tmp 32), none⟩])
 (.seq
 (.dreg [⟨some 33, .faddr 2 (.tmp 2), none⟩,
 ⟨some 34, .load false 1 (.tmp 33), none⟩,
 ⟨some 35, .mov (.tmp 5), none⟩,
 ⟨some 36, .iaddr 3 (.tmp 34) (.tmp 35), none⟩,
 ⟨some 37, .load true 3 (.tmp 36), none⟩,
 ⟨some 38, .faddr 2 (.tmp 3), none⟩,
 ⟨some 39, .load false 1 (.tmp 38), none⟩,
 ⟨some 40, .mov (.tmp 5), none⟩,
 ⟨some 41, .iaddr 3 (.tmp 39) (.tmp 40), none⟩,
 ⟨some 42, .load true 3 (.tmp 41), none⟩,
 ⟨some 43, .call (.func 35) [(.tmp 37), (.tmp 42)], none⟩,
 ⟨some 44, .un .not (.tmp 43), none⟩]
 [[], [0], [], [1, 2], [3], [], [5], [], [6, 7], [8], [4, 9], [10]]
 [[2], [33], [5], [34, 35], [36], [3], [38], [5], [39, 40], [41], [37, 42], [43]])
 (.cond (.tmp 44)
 (.seq
 (.reg [⟨some 4, .mov (.const (.bool false)), none⟩])
 (.ret))
 (.skip)))))
 (.reg [⟨some 45, .bin .add .int (.tmp 30) (.const (.int .i64 1)), none⟩,
 ⟨some 30, .mov (.tmp 45), none⟩])))
def ac35 : AC := .seq
 (.reg [⟨some 2, .box 26 3 (.tmp 0), none⟩,
 ⟨some 3, .box 26 3 (.tmp 1), none⟩,
 ⟨some 4, .mov (.const (.bool false)), none⟩])
 (.seq
 (.seq
 (.reg [⟨some 6, .faddr 0 (.tmp 2), none⟩,
 ⟨some 7, .load false 1 (.tmp 6), none⟩,
 ⟨some 8, .faddr 0 (.tmp 3), none⟩,
 ⟨some 9, .load false 1 (.tmp 8), none⟩,
 ⟨some 10, .bin .neq .int (.tmp 7) (.tmp 9), none⟩,
 ⟨some 11, .mov (.tmp 10), none⟩,
 ⟨some 12, .faddr 1 (.tmp 2), some (11, false)⟩,
 ⟨some 13, .load false 1 (.tmp 12), some (11, false)⟩,
 ⟨some 14, .faddr 1 (.tmp 3), some (11, false)⟩,
 ⟨some 15, .load false 1 (.tmp 14), some (11, false)⟩,
 ⟨some 16, .bin .neq .int (.tmp 13) (.tmp 15), some (11, false)⟩,
 ⟨some 17, .pick (.tmp 11) (.const (.bool true)) (.tmp 16), none⟩,
 ⟨some 18, .mov (.tmp 17), none⟩,
 ⟨some 19, .faddr 2 (.tmp 2), some (18, false)⟩,
 ⟨some 20, .load false 1 (.tmp 19), some (18, false)⟩,
 ⟨some 21, .slen false (.tmp 20), some (18, false)⟩,
 ⟨some 22, .faddr 2 (.tmp 3), some (18, false)⟩,
 ⟨some 23, .load false 1 (.tmp 22), some (18, false)⟩,
 ⟨some 24, .slen false (.tmp 23), some (18, false)⟩,
 ⟨some 25, .bin .neq .int (.tmp 21) (.tmp 24), some (18, false)⟩,
 ⟨some 26, .pick (.tmp 18) (.const (.bool true)) (.tmp 25), none⟩])
 (.cond (.tmp 26)
 (.seq
 (.reg [⟨some 4, .mov (.const (.bool false)), none⟩])
 (.ret))
 (.skip)))
 (.seq
 (.seq
 (.reg [⟨some 27, .faddr 2 (.tmp 2), none⟩,
 ⟨some 28, .load false 1 (.tmp 27), none⟩,
 ⟨some 29, .slen false (.tmp 28), none⟩,
 ⟨some 30, .mov (.const (.int .i64 0)), none⟩])
 (.block 0
 (.loop ac35_l0)))
 (.seq
 (.reg [⟨some 4, .mov (.const (.bool true)), none⟩])
 (.ret))))
theorem fn35 : Fun Try.prog 35 46 ac35 [.tmp 4] := ⟨mixedU, Try.f35, _, Try.func35, rfl, by decide +kernel, rfl, by kernel_rfl, by kernel_rfl⟩
/- glossator/glossatorref2.TypeSize -/
def ac36_l0 : AC := .seq
 (.reg [⟨some 12, .bin .lss .int (.tmp 11) (.tmp 10), none⟩])
 (.seq
 (.cond (.tmp 12)
 (.skip)
 (.exit 0))
 (.seq
 (.block 1
 (.seq
 (.reg [⟨some 13, .iaddr 3 (.tmp 9) (.tmp 11), none⟩,
 ⟨some 14, .load true 3 (.tmp 13), none⟩,
 ⟨some 5, .alloc 26 3 [(.int .i64 0), (.int .i64 0), (.slice none 0 0)], none⟩,
 ⟨none, .store 3 (.tmp 5) (.tmp 14), none⟩])
 (.seq
 (.reg [⟨some 16, .load true 3 (.tmp 5), none⟩,
 ⟨some 17, .call (.func 36) [(.tmp 16)], none⟩,
 ⟨some 15, .mov (.tmp 17), none⟩,
 ⟨some 18, .ext (.tmp 15) 0, none⟩,
 ⟨some 19, .ext (.tmp 15) 1, none⟩,
 ⟨some 6, .mov (.tmp 18), none⟩,
 ⟨some 7, .mov (.tmp 19), none⟩])
 (.seq
 (.reg [⟨some 20, .mov (.tmp 2), none⟩,
 ⟨some 21, .mov (.tmp 6), none⟩,
 ⟨some 22, .bin .add .int (.tmp 20) (.tmp 21), none⟩,
 ⟨some 2, .mov (.tmp 22), none⟩])
 (.reg [⟨some 23, .mov (.tmp 3), none⟩,
 ⟨some 24, .mov (.tmp 7), none⟩,
 ⟨some 25, .bin .add .int (.tmp 24) (.const (.int .i64 1)), none⟩,
 ⟨some 26, .minmax false (.tmp 23) (.tmp 25), none⟩,
 ⟨some 3, .mov (.tmp 26), none⟩])))))
 (.reg [⟨some 27, .bin .add .int (.tmp 11) (.const (.int .i64 1)), none⟩,
 ⟨some 11, .mov (.tmp 27), none⟩])))
def ac36 : AC := .seq
 (.reg [⟨some 1, .box 26 3 (.tmp 0), none⟩,
 ⟨some 2, .mov (.const (.int .i64 0)), none⟩,
 ⟨some 3, .mov (.const (.int .i64 0)), none⟩])
 (.seq
 (.reg [⟨some 2, .mov (.const (.int .i64 1)), none⟩,
 ⟨some 3, .mov (.const (.int .i64 1)), none⟩])
 (.seq
 (.seq
 (.reg [⟨some 8, .faddr 2 (.tmp 1), none⟩,
 ⟨some 9, .load false 1 (.tmp 8), none⟩,
 ⟨some 10, .slen false (.tmp 9), none⟩,
 ⟨some 11, .mov (.const (.int .i64 0)), none⟩])
 (.block 0
 (.loop ac36_l0)))
 (.seq
 (.reg [⟨some 28, .mov (.tmp 2), none⟩,
 ⟨some 29, .mov (.tmp 3), none⟩,
 ⟨some 2, .mov (.tmp 28), none⟩,
 ⟨some 3, .mov (.tmp 29), none⟩])
 (.ret))))
theorem fn36 : Fun Try.prog 36 30 ac36 [.tmp 2, .tmp 3] := ⟨mixedU, Try.f36, _, Try.func36, rfl, by decide +kernel, rfl, by kernel_rfl, by kernel_rfl⟩
/- glossator/glossatorlaw2.projections -/
def ac37_l0 : AC := .seq
 (.reg [⟨some 15, .bin .lss .int (.tmp 14) (.tmp 13), none⟩])
 (.seq
 (.cond (.tmp 15)
 (.skip)
 (.exit 0))
 (.seq
 (.block 1
 (.seq
 (.reg [⟨some 16, .iaddr 3 (.tmp 12) (.tmp 14), none⟩,
 ⟨some 17, .load true 3 (.tmp 16), none⟩,
 ⟨some 5, .alloc 26 3 [(.int .i64 0), (.int .i64 0), (.slice none 0 0)], none⟩,
 ⟨none, .store 3 (.tmp 5) (.tmp 17), none⟩])
 (.reg [⟨some 18, .mov (.tmp 3), none⟩,
 ⟨some 19, .load true 3 (.tmp 5), none⟩,
 ⟨some 20, .call (.func 37) [(.tmp 19)], none⟩,
 ⟨some 21, .bin .add .int (.tmp 18) (.tmp 20), none⟩,
 ⟨some 3, .mov (.tmp 21), none⟩])))
 (.reg [⟨some 22, .bin .add .int (.tmp 14) (.const (.int .i64 1)), none⟩,
 ⟨some 14, .mov (.tmp 22), none⟩])))
def ac37 : AC := .seq
 (.reg [⟨some 1, .box 26 3 (.tmp 0), none⟩,
 ⟨some 2, .mov (.const (.int .i64 0)), none⟩])
 (.seq
 (.reg [⟨some 3, .mov (.const (.int .i64 0)), none⟩])
 (.seq
 (.seq
 (.reg [⟨some 6, .faddr 0 (.tmp 1), none⟩,
 ⟨some 7, .load false 1 (.tmp 6), none⟩,
 ⟨some 8, .bin .eql .int (.tmp 7) (.const (.int .i64 10)), none⟩])
 (.cond (.tmp 8)
 (.reg [⟨some 9, .mov (.tmp 3), none⟩,
 ⟨some 10, .bin .add .int (.tmp 9) (.const (.int .i64 1)), none⟩,
 ⟨some 3, .mov (.tmp 10), none⟩])
 (.skip)))
 (.seq
 (.seq
 (.reg [⟨some 11, .faddr 2 (.tmp 1), none⟩,
 ⟨some 12, .load false 1 (.tmp 11), none⟩,
 ⟨some 13, .slen false (.tmp 12), none⟩,
 ⟨some 14, .mov (.const (.int .i64 0)), none⟩])
 (.block 0
 (.loop ac37_l0)))
 (.seq
 (.reg [⟨some 23, .mov (.tmp 3), none⟩,
 ⟨some 2, .mov (.tmp 23), none⟩])
 (.ret)))))
theorem fn37 : Fun Try.prog 37 24 ac37 [.tmp 2] := ⟨mixedU, Try.f37, _, Try.func37, rfl, by decide +kernel, rfl, by kernel_rfl, by kernel_rfl⟩
/- glossator/glossatorref2.NormalForm -/
def ac38_l0 : AC := .seq
 (.reg [⟨some 26, .bin .lss .int (.tmp 25) (.tmp 24), none⟩])
 (.seq
 (.cond (.tmp 26)
 (.skip)
 (.exit 0))
 (.seq
 (.block 1
 (.seq
 (.reg [⟨some 27, .iaddr 3 (.tmp 23) (.tmp 25), none⟩,
 ⟨some 28, .load true 3 (.tmp 27), none⟩,
 ⟨some 14, .alloc 26 3 [(.int .i64 0), (.int .i64 0), (.slice none 0 0)], none⟩,
 ⟨none, .store 3 (.tmp 14) (.tmp 28), none⟩])
 (.seq
 (.reg [⟨some 30, .load true 3 (.tmp 5), none⟩,
 ⟨some 31, .mov (.tmp 1), none⟩,
 ⟨some 32, .mov (.tmp 2), none⟩,
 ⟨some 33, .load true 3 (.tmp 14), none⟩,
 ⟨some 34, .mov (.tmp 4), none⟩,
 ⟨some 35, .call (.func 38) [(.tmp 30), (.tmp 31), (.tmp 32), (.tmp 33), (.tmp 34)], none⟩,
 ⟨some 29, .mov (.tmp 35), none⟩,
 ⟨some 36, .ext (.tmp 29) 0, none⟩,
 ⟨some 37, .ext (.tmp 29) 1, none⟩,
 ⟨some 15, .alloc 26 3 [(.int .i64 0), (.int .i64 0), (.slice none 0 0)], none⟩,
 ⟨none, .store 3 (.tmp 15) (.tmp 36), none⟩,
 ⟨some 16, .mov (.tmp 37), none⟩])
 (.seq
 (.seq
 (.reg [⟨some 38, .mov (.tmp 16), none⟩,
 ⟨some 39, .un .not (.tmp 38), none⟩])
 (.cond (.tmp 39)
 (.seq
 (.reg [⟨some 40, .load true 3 (.tmp 15), none⟩,
 ⟨none, .store 3 (.tmp 10) (.tmp 40), none⟩,
 ⟨some 11, .mov (.const (.bool false)), none⟩])
 (.ret))
 (.skip)))
 (.reg [⟨some 41, .mov (.tmp 12), none⟩,
 ⟨some 42, .load true 3 (.tmp 15), none⟩,
 ⟨some 43, .bslice 26 3 [(.int .i64 0), (.int .i64 0), (.slice none 0 0)] 1 [(0, (.tmp 42))], none⟩,
 ⟨some 44, .app 26 3 (.tmp 41) (.tmp 43), none⟩,
 ⟨some 12, .mov (.tmp 44), none⟩])))))
 (.reg [⟨some 45, .bin .add .int (.tmp 25) (.const (.int .i64 1)), none⟩,
 ⟨some 25, .mov (.tmp 45), none⟩])))
def ac38_l1 : AC := .seq
 (.reg [⟨some 122, .bin .lss .int (.tmp 121) (.tmp 120), none⟩])
 (.seq
 (.cond (.tmp 122)
 (.skip)
 (.exit 2))
 (.seq
 (.block 3
 (.seq
 (.reg [⟨some 123, .mov (.tmp 121), none⟩,
 ⟨some 124, .iaddr 6 (.tmp 119) (.tmp 121), none⟩,
 ⟨some 125, .load true 6 (.tmp 124), none⟩,
 ⟨some 21, .alloc 125 6 [(.int .i64 0), (.int .i64 0), (.int .i64 0), (.int .i64 0), (.string ⟨#[]⟩), (.bool false)], none⟩,
 ⟨some 20, .mov (.tmp 123), none⟩,
 ⟨none, .store 6 (.tmp 21) (.tmp 125), none⟩])
 (.seq
 (.dreg [⟨some 126, .faddr 0 (.tmp 21), none⟩,
 ⟨some 127, .load false 1 (.tmp 126), none⟩,
 ⟨some 128, .bin .eql .int (.tmp 127) (.const (.int .i64 13)), none⟩,
 ⟨some 129, .mov (.tmp 128), none⟩,
 ⟨some 130, .faddr 3 (.tmp 21), some (129, true)⟩,
 ⟨some 131, .load false 1 (.tmp 130), some (129, true)⟩,
 ⟨some 132, .faddr 4 (.tmp 18), some (129, true)⟩,
 ⟨some 133, .load false 1 (.tmp 132), some (129, true)⟩,
 ⟨some 134, .bin .eql .int (.tmp 131) (.tmp 133), some (129, true)⟩,
 ⟨some 135, .pick (.tmp 129) (.tmp 134) (.const (.bool false)), none⟩,
 ⟨some 136, .mov (.tmp 135), none⟩,
 ⟨some 137, .faddr 4 (.tmp 21), some (136, true)⟩,
 ⟨some 138, .load false 1 (.tmp 137), some (136, true)⟩,
 ⟨some 139, .faddr 0 (.tmp 5), some (136, true)⟩,
 ⟨some 140, .load false 1 (.tmp 139), some (136, true)⟩,
 ⟨some 141, .faddr 1 (.tmp 8), some (136, true)⟩,
 ⟨some 142, .load false 1 (.tmp 141), some (136, true)⟩,
 ⟨some 143, .iaddr 6 (.tmp 140) (.tmp 142), some (136, true)⟩,
 ⟨some 144, .faddr 4 (.tmp 143), some (136, true)⟩,
 ⟨some 145, .load false 1 (.tmp 144), some (136, true)⟩,
 ⟨some 146, .bin .eql .str (.tmp 138) (.tmp 145), some (136, true)⟩,
 ⟨some 147, .pick (.tmp 136) (.tmp 146) (.const (.bool false)), none⟩]
 [[], [0], [1], [2], [3], [4, 3], [3], [6, 3], [5, 7, 3], [3, 8], [9, 3], [10], [11, 10], [10], [13, 10], [10], [15, 10], [14, 16, 10], [17, 10], [18, 10], [12, 19, 10], [10, 20]]
 [[21], [126], [127], [128], [21, 129], [130, 129], [18, 129], [132, 129], [131, 133, 129], [129, 134], [135], [21, 136], [137, 136], [5, 136], [139, 136], [8, 136], [141, 136], [140, 142, 136], [143, 136], [144, 136], [138, 145, 136], [136, 146]])
 (.cond (.tmp 147)
 (.seq
 (.seq
 (.reg [⟨some 148, .mov (.tmp 4), none⟩,
 ⟨some 149, .bin .eql .int (.tmp 148) (.const (.int .i64 8)), none⟩])
 (.cond (.tmp 149)
 (.seq
 (.reg [⟨some 150, .build [(.int .i64 0), (.int .i64 0), (.slice none 0 0)] [(0, 1), (1, 1), (2, 1)] [], none⟩,
 ⟨none, .store 3 (.tmp 10) (.tmp 150), none⟩,
 ⟨some 11, .mov (.const (.bool true)), none⟩])
 (.ret))
 (.skip)))
 (.seq
 (.dreg [⟨some 151, .load true 3 (.tmp 5), none⟩,
 ⟨some 152, .mov (.tmp 1), none⟩,
 ⟨some 153, .mov (.tmp 2), none⟩,
 ⟨some 154, .mov (.tmp 1), none⟩,
 ⟨some 155, .mov (.tmp 20), none⟩,
 ⟨some 156, .iaddr 7 (.tmp 154) (.tmp 155), none⟩,
 ⟨some 157, .faddr 1 (.tmp 156), none⟩,
 ⟨some 158, .load true 3 (.tmp 157), none⟩,
 ⟨some 159, .mov (.tmp 1), none⟩,
 ⟨some 160, .faddr 4 (.tmp 18), none⟩,
 ⟨some 161, .load false 1 (.tmp 160), none⟩,
 ⟨some 162, .iaddr 7 (.tmp 159) (.tmp 161), none⟩,
 ⟨some 163, .faddr 0 (.tmp 162), none⟩,
 ⟨some 164, .load false 1 (.tmp 163), none⟩,
 ⟨some 165, .faddr 6 (.tmp 18), none⟩,
 ⟨some 166, .load false 1 (.tmp 165), none⟩,
 ⟨some 167, .call (.func 86) [(.tmp 158), (.tmp 164), (.tmp 166)], none⟩,
 ⟨some 168, .mov (.tmp 4), none⟩,
 ⟨some 169, .bin .add .int (.tmp 168) (.const (.int .i64 1)), none⟩,
 ⟨some 170, .call (.func 38) [(.tmp 151), (.tmp 152), (.tmp 153), (.tmp 167), (.tmp 169)], none⟩,
 ⟨some 171, .ext (.tmp 170) 0, none⟩,
 ⟨some 172, .ext (.tmp 170) 1, none⟩,
 ⟨none, .store 3 (.tmp 10) (.tmp 171), none⟩,
 ⟨some 11, .mov (.tmp 172), none⟩]
 [[], [], [], [], [], [3, 4], [5], [6], [], [], [9], [8, 10], [11], [12], [], [14], [7, 13, 15], [], [17], [0, 1, 2, 16, 18, 16], [19], [19], [20, 19, 0, 1, 2, 3, 4, 5, 6, 7, 8, 9, 10, 11, 12, 13, 14, 15, 16, 17, 18, 19, 20, 21], [21, 22, 0, 1, 2, 3, 4, 5, 6, 7, 8, 9, 10, 11, 12, 13, 14, 15, 16, 17, 18, 19, 20, 21, 22]]
 [[5], [1], [2], [1], [20], [154, 155], [156], [157], [1], [18], [160], [159, 161], [162], [163], [18], [165], [158, 164, 166], [4], [168], [151, 152, 153, 167, 169], [170], [170], [10, 171], [172]])
 (.ret)))
 (.skip)))))
 (.reg [⟨some 173, .bin .add .int (.tmp 121) (.const (.int .i64 1)), none⟩,
 ⟨some 121, .mov (.tmp 173), none⟩])))
def ac38 : AC := .seq
 (.reg [⟨some 5, .box 50 3 (.tmp 0), none⟩,
 ⟨some 8, .box 26 3 (.tmp 3), none⟩,
 ⟨some 10, .alloc 26 3 [(.int .i64 0), (.int .i64 0), (.slice none 0 0)], none⟩,
 ⟨some 11, .mov (.const (.bool false)), none⟩])
 (.seq
 (.reg [⟨some 12, .mov (.const (.slice none 0 0)), none⟩])
 (.seq
 (.seq
 (.reg [⟨some 22, .faddr 2 (.tmp 8), none⟩,
 ⟨some 23, .load false 1 (.tmp 22), none⟩,
 ⟨some 24, .slen false (.tmp 23), none⟩,
 ⟨some 25, .mov (.const (.int .i64 0)), none⟩])
 (.block 0
 (.loop ac38_l0)))
 (.seq
 (.reg [⟨some 46, .mov (.tmp 12), none⟩,
 ⟨some 47, .faddr 2 (.tmp 8), none⟩,
 ⟨none, .store 1 (.tmp 47) (.tmp 46), none⟩])
 (.seq
 (.seq
 (.reg [⟨some 48, .faddr 0 (.tmp 8), none⟩,
 ⟨some 49, .load false 1 (.tmp 48), none⟩,
 ⟨some 50, .bin .neq .int (.tmp 49) (.const (.int .i64 10)), none⟩])
 (.cond (.tmp 50)
 (.seq
 (.reg [⟨some 51, .load true 3 (.tmp 8), none⟩,
 ⟨none, .store 3 (.tmp 10) (.tmp 51), none⟩,
 ⟨some 11, .mov (.const (.bool true)), none⟩])
 (.ret))
 (.skip)))
 (.seq
 (.seq
 (.reg [⟨some 52, .faddr 1 (.tmp 8), none⟩,
 ⟨some 53, .load false 1 (.tmp 52), none⟩,
 ⟨some 54, .faddr 0 (.tmp 5), none⟩,
 ⟨some 55, .load false 1 (.tmp 54), none⟩,
 ⟨some 56, .slen false (.tmp 55), none⟩,
 ⟨some 57, .bin .sub .int (.tmp 56) (.const (.int .i64 1)), none⟩,
 ⟨some 58, .call (.func 95) [(.tmp 53), (.const (.int .i64 0)), (.tmp 57)], none⟩,
 ⟨some 59, .un .not (.tmp 58), none⟩,
 ⟨some 60, .mov (.tmp 59), none⟩,
 ⟨some 61, .faddr 0 (.tmp 5), some (60, false)⟩,
 ⟨some 62, .load false 1 (.tmp 61), some (60, false)⟩,
 ⟨some 63, .faddr 1 (.tmp 8), some (60, false)⟩,
 ⟨some 64, .load false 1 (.tmp 63), some (60, false)⟩,
 ⟨some 65, .iaddr 6 (.tmp 62) (.tmp 64), some (60, false)⟩,
 ⟨some 66, .faddr 0 (.tmp 65), some (60, false)⟩,
 ⟨some 67, .load false 1 (.tmp 66), some (60, false)⟩,
 ⟨some 68, .bin .neq .int (.tmp 67) (.const (.int .i64 13)), some (60, false)⟩,
 ⟨some 69, .pick (.tmp 60) (.const (.bool true)) (.tmp 68), none⟩,
 ⟨some 70, .mov (.tmp 69), none⟩,
 ⟨some 71, .mov (.tmp 12), some (70, false)⟩,
 ⟨some 72, .slen false (.tmp 71), some (70, false)⟩,
 ⟨some 73, .bin .neq .int (.tmp 72) (.const (.int .i64 1)), some (70, false)⟩,
 ⟨some 74, .pick (.tmp 70) (.const (.bool true)) (.tmp 73), none⟩])
 (.cond (.tmp 74)
 (.seq
 (.reg [⟨some 75, .load true 3 (.tmp 8), none⟩,
 ⟨none, .store 3 (.tmp 10) (.tmp 75), none⟩,
 ⟨some 11, .mov (.const (.bool false)), none⟩])
 (.ret))
 (.skip)))
 (.seq
 (.reg [⟨some 76, .faddr 0 (.tmp 5), none⟩,
 ⟨some 77, .load false 1 (.tmp 76), none⟩,
 ⟨some 78, .faddr 1 (.tmp 8), none⟩,
 ⟨some 79, .load false 1 (.tmp 78), none⟩,
 ⟨some 80, .iaddr 6 (.tmp 77) (.tmp 79), none⟩,
 ⟨some 81, .faddr 3 (.tmp 80), none⟩,
 ⟨some 82, .load false 1 (.tmp 81), none⟩,
 ⟨some 17, .mov (.tmp 82), none⟩])
 (.seq
 (.seq
 (.reg [⟨some 83, .mov (.tmp 17), none⟩,
 ⟨some 84, .faddr 0 (.tmp 5), none⟩,
 ⟨some 85, .load false 1 (.tmp 84), none⟩,
 ⟨some 86, .slen false (.tmp 85), none⟩,
 ⟨some 87, .bin .sub .int (.tmp 86) (.const (.int .i64 1)), none⟩,
 ⟨some 88, .call (.func 95) [(.tmp 83), (.const (.int .i64 0)), (.tmp 87)], none⟩,
 ⟨some 89, .un .not (.tmp 88), none⟩,
 ⟨some 90, .mov (.tmp 89), none⟩,
 ⟨some 91, .faddr 0 (.tmp 5), some (90, false)⟩,
 ⟨some 92, .load false 1 (.tmp 91), some (90, false)⟩,
 ⟨some 93, .mov (.tmp 17), some (90, false)⟩,
 ⟨some 94, .iaddr 6 (.tmp 92) (.tmp 93), some (90, false)⟩,
 ⟨some 95, .faddr 0 (.tmp 94), some (90, false)⟩,
 ⟨some 96, .load false 1 (.tmp 95), some (90, false)⟩,
 ⟨some 97, .bin .neq .int (.tmp 96) (.const (.int .i64 5)), some (90, false)⟩,
 ⟨some 98, .pick (.tmp 90) (.const (.bool true)) (.tmp 97), none⟩])
 (.cond (.tmp 98)
 (.seq
 (.reg [⟨some 99, .load true 3 (.tmp 8), none⟩,
 ⟨none, .store 3 (.tmp 10) (.tmp 99), none⟩,
 ⟨some 11, .mov (.const (.bool false)), none⟩])
 (.ret))
 (.skip)))
 (.seq
 (.reg [⟨some 101, .mov (.tmp 1), none⟩,
 ⟨some 102, .mov (.tmp 2), none⟩,
 ⟨some 103, .mov (.tmp 12), none⟩,
 ⟨some 104, .iaddr 3 (.tmp 103) (.const (.int .i64 0)), none⟩,
 ⟨some 105, .load true 3 (.tmp 104), none⟩,
 ⟨some 106, .mov (.tmp 17), none⟩,
 ⟨some 107, .call (.func 27) [(.tmp 101), (.tmp 102), (.tmp 105), (.tmp 106), (.const (.int .i64 8))], none⟩,
 ⟨some 100, .mov (.tmp 107), none⟩,
 ⟨some 108, .ext (.tmp 100) 0, none⟩,
 ⟨some 109, .ext (.tmp 100) 1, none⟩,
 ⟨some 18, .alloc 30 8 [(.int .i64 0), (.int .i64 0), (.slice none 0 0), (.int .i64 0), (.int .i64 0), (.int .i64 0), (.slice none 0 0), (.slice none 0 0)], none⟩,
 ⟨none, .store 8 (.tmp 18) (.tmp 108), none⟩,
 ⟨some 19, .mov (.tmp 109), none⟩])
 (.seq
 (.seq
 (.reg [⟨some 110, .mov (.tmp 19), none⟩,
 ⟨some 111, .un .not (.tmp 110), none⟩,
 ⟨some 112, .mov (.tmp 111), none⟩,
 ⟨some 113, .faddr 4 (.tmp 18), some (112, false)⟩,
 ⟨some 114, .load false 1 (.tmp 113), some (112, false)⟩,
 ⟨some 115, .bin .lss .int (.tmp 114) (.const (.int .i64 0)), some (112, false)⟩,
 ⟨some 116, .pick (.tmp 112) (.const (.bool true)) (.tmp 115), none⟩])
 (.cond (.tmp 116)
 (.seq
 (.reg [⟨some 117, .load true 3 (.tmp 8), none⟩,
 ⟨none, .store 3 (.tmp 10) (.tmp 117), none⟩,
 ⟨some 11, .mov (.const (.bool true)), none⟩])
 (.ret))
 (.skip)))
 (.seq
 (.seq
 (.reg [⟨some 118, .faddr 0 (.tmp 5), none⟩,
 ⟨some 119, .load false 1 (.tmp 118), none⟩,
 ⟨some 120, .slen false (.tmp 119), none⟩,
 ⟨some 121, .mov (.const (.int .i64 0)), none⟩])
 (.block 2
 (.loop ac38_l1)))
 (.seq
 (.reg [⟨some 174, .build [(.int .i64 0), (.int .i64 0), (.slice none 0 0)] [(0, 1), (1, 1), (2, 1)] [], none⟩,
 ⟨none, .store 3 (.tmp 10) (.tmp 174), none⟩,
 ⟨some 11, .mov (.const (.bool true)), none⟩])
 (.ret))))))))))))
theorem fn38 : Fun Try.prog 38 175 ac38 [.cell 10 3 true, .tmp 11] := ⟨mixedU, Try.f38, _, Try.func38, rfl, by decide +kernel, rfl, by kernel_rfl, by kernel_rfl⟩
/- glossator/glossatorref2.TypeError -/
def ac39 : AC := .seq
 (.reg [⟨some 1, .box 26 3 (.tmp 0), none⟩,
 ⟨some 2, .mov (.const (.int .i64 0)), none⟩])
 (.seq
 (.reg [⟨some 6, .load true 3 (.tmp 1), none⟩,
 ⟨some 7, .call (.func 36) [(.tmp 6)], none⟩,
 ⟨some 5, .mov (.tmp 7), none⟩,
 ⟨some 8, .ext (.tmp 5) 0, none⟩,
 ⟨some 9, .ext (.tmp 5) 1, none⟩,
 ⟨some 3, .mov (.tmp 8), none⟩,
 ⟨some 4, .mov (.tmp 9), none⟩])
 (.seq
 (.seq
 (.reg [⟨some 10, .mov (.tmp 3), none⟩,
 ⟨some 11, .bin .gtr .int (.tmp 10) (.const (.int .i64 100)), none⟩,
 ⟨some 12, .mov (.tmp 11), none⟩,
 ⟨some 13, .mov (.tmp 4), some (12, false)⟩,
 ⟨some 14, .bin .gtr .int (.tmp 13) (.const (.int .i64 12)), some (12, false)⟩,
 ⟨some 15, .pick (.tmp 12) (.const (.bool true)) (.tmp 14), none⟩])
 (.cond (.tmp 15)
 (.seq
 (.reg [⟨some 2, .mov (.const (.int .i64 2)), none⟩])
 (.ret))
 (.skip)))
 (.seq
 (.seq
 (.reg [⟨some 16, .load true 3 (.tmp 1), none⟩,
 ⟨some 17, .call (.func 96) [(.tmp 16)], none⟩,
 ⟨some 18, .un .not (.tmp 17), none⟩])
 (.cond (.tmp 18)
 (.seq
 (.reg [⟨some 2, .mov (.const (.int .i64 3)), none⟩])
 (.ret))
 (.skip)))
 (.seq
 (.reg [⟨some 2, .mov (.const (.int .i64 0)), none⟩])
 (.ret)))))
theorem fn39 : Fun Try.prog 39 19 ac39 [.tmp 2] := ⟨mixedU, Try.f39, _, Try.func39, rfl, by decide +kernel, rfl, by kernel_rfl, by kernel_rfl⟩
/- (glossator/traits.solver).solve -/
def ac77_l0 : AC := .seq
 (.reg [⟨some 75, .bin .lss .int (.tmp 74) (.tmp 73), none⟩])
 (.seq
 (.cond (.tmp 75)
 (.skip)
 (.exit 0))
 (.seq
 (.block 1
 (.seq
 (.reg [⟨some 76, .iaddr 4 (.tmp 72) (.tmp 74), none⟩,
 ⟨some 77, .load true 4 (.tmp 76), none⟩,
 ⟨some 15, .alloc 43 4 [(.int .i64 0), (.int .i64 0), (.slice none 0 0), (.int .i64 0)], none⟩,
 ⟨none, .store 4 (.tmp 15) (.tmp 77), none⟩])
 (.seq
 (.dreg [⟨some 79, .load true 2 (.tmp 4), none⟩,
 ⟨some 80, .faddr 0 (.tmp 15), none⟩,
 ⟨some 81, .load true 3 (.tmp 80), none⟩,
 ⟨some 82, .faddr 0 (.tmp 4), none⟩,
 ⟨some 83, .load false 1 (.tmp 82), none⟩,
 ⟨some 84, .mov (.tmp 11), none⟩,
 ⟨some 85, .iaddr 7 (.tmp 83) (.tmp 84), none⟩,
 ⟨some 86, .faddr 0 (.tmp 85), none⟩,
 ⟨some 87, .load false 1 (.tmp 86), none⟩,
 ⟨some 88, .mov (.tmp 12), none⟩,
 ⟨some 89, .call (.func 80) [(.tmp 81), (.tmp 87), (.tmp 88)], none⟩,
 ⟨some 90, .faddr 3 (.tmp 15), none⟩,
 ⟨some 91, .load false 1 (.tmp 90), none⟩,
 ⟨some 92, .mov (.tmp 3), none⟩,
 ⟨some 93, .bin .sub .int (.tmp 92) (.const (.int .i64 1)), none⟩,
 ⟨some 94, .call (.func 77) [(.tmp 79), (.tmp 89), (.tmp 91), (.tmp 93)], none⟩,
 ⟨some 78, .mov (.tmp 94), none⟩,
 ⟨some 95, .ext (.tmp 78) 0, none⟩,
 ⟨some 96, .ext (.tmp 78) 1, none⟩,
 ⟨some 16, .alloc 30 8 [(.int .i64 0), (.int .i64 0), (.slice none 0 0), (.int .i64 0), (.int .i64 0), (.int .i64 0), (.slice none 0 0), (.slice none 0 0)], none⟩,
 ⟨none, .store 8 (.tmp 16) (.tmp 95), none⟩,
 ⟨some 17, .mov (.tmp 96), none⟩]
 [[], [], [1], [], [3], [], [4, 5], [6], [7], [], [2, 8, 9], [], [11], [], [13], [0, 10, 12, 14, 10], [15], [16], [16], [], [19, 17, 15, 0, 1, 2, 3, 4, 5, 6, 7, 8, 9, 10, 11, 12, 13, 14, 15, 16, 17, 19], [18, 20, 0, 1, 2, 3, 4, 5, 6, 7, 8, 9, 10, 11, 12, 13, 14, 15, 16, 17, 18, 19, 20]]
 [[4], [15], [80], [4], [82], [11], [83, 84], [85], [86], [12], [81, 87, 88], [15], [90], [3], [92], [79, 89, 91, 93], [94], [78], [78], [], [16, 95], [96]])
 (.seq
 (.seq
 (.reg [⟨some 97, .mov (.tmp 17), none⟩,
 ⟨some 98, .un .not (.tmp 97), none⟩])
 (.cond (.tmp 98)
 (.seq
 (.reg [⟨some 99, .build [(.int .i64 0), (.int .i64 0), (.slice none 0 0), (.int .i64 0), (.int .i64 0), (.int .i64 0), (.slice none 0 0), (.slice none 0 0)] [(0, 3), (3, 1), (4, 1), (5, 1), (6, 1), (7, 1)] [], none⟩,
 ⟨none, .store 8 (.tmp 8) (.tmp 99), none⟩,
 ⟨some 9, .mov (.const (.bool false)), none⟩])
 (.ret))
 (.skip)))
 (.reg [⟨some 100, .faddr 7 (.tmp 13), none⟩,
 ⟨some 101, .load false 1 (.tmp 100), none⟩,
 ⟨some 102, .load true 8 (.tmp 16), none⟩,
 ⟨some 103, .bslice 30 8 [(.int .i64 0), (.int .i64 0), (.slice none 0 0), (.int .i64 0), (.int .i64 0), (.int .i64 0), (.slice none 0 0), (.slice none 0 0)] 1 [(0, (.tmp 102))], none⟩,
 ⟨some 104, .app 30 8 (.tmp 101) (.tmp 103), none⟩,
 ⟨some 105, .faddr 7 (.tmp 13), none⟩,
 ⟨none, .store 1 (.tmp 105) (.tmp 104), none⟩])))))
 (.reg [⟨some 106, .bin .add .int (.tmp 74) (.const (.int .i64 1)), none⟩,
 ⟨some 74, .mov (.tmp 106), none⟩])))
def ac77 : AC := .seq
 (.reg [⟨some 4, .box 107 2 (.tmp 0), none⟩,
 ⟨some 5, .box 26 3 (.tmp 1), none⟩,
 ⟨some 6, .box 3 1 (.tmp 2), none⟩,
 ⟨some 8, .alloc 30 8 [(.int .i64 0), (.int .i64 0), (.slice none 0 0), (.int .i64 0), (.int .i64 0), (.int .i64 0), (.slice none 0 0), (.slice none 0 0)], none⟩,
 ⟨some 9, .mov (.const (.bool false)), none⟩])
 (.seq
 (.seq
 (.reg [⟨some 18, .faddr 0 (.tmp 5), none⟩,
 ⟨some 19, .load false 1 (.tmp 18), none⟩,
 ⟨some 20, .bin .eql .int (.tmp 19) (.const (.int .i64 0)), none⟩,
 ⟨some 21, .mov (.tmp 20), none⟩,
 ⟨some 22, .load false 1 (.tmp 6), some (21, false)⟩,
 ⟨some 23, .bin .lss .int (.tmp 22) (.const (.int .i64 0)), some (21, false)⟩,
 ⟨some 24, .pick (.tmp 21) (.const (.bool true)) (.tmp 23), none⟩,
 ⟨some 25, .mov (.tmp 24), none⟩,
 ⟨some 26, .mov (.tmp 3), some (25, false)⟩,
 ⟨some 27, .bin .eql .int (.tmp 26) (.const (.int .i64 0)), some (25, false)⟩,
 ⟨some 28, .pick (.tmp 25) (.const (.bool true)) (.tmp 27), none⟩])
 (.cond (.tmp 28)
 (.seq
 (.reg [⟨some 29, .build [(.int .i64 0), (.int .i64 0), (.slice none 0 0), (.int .i64 0), (.int .i64 0), (.int .i64 0), (.slice none 0 0), (.slice none 0 0)] [(0, 3), (3, 1), (4, 1), (5, 1), (6, 1), (7, 1)] [], none⟩,
 ⟨none, .store 8 (.tmp 8) (.tmp 29), none⟩,
 ⟨some 9, .mov (.const (.bool false)), none⟩])
 (.ret))
 (.skip)))
 (.seq
 (.reg [⟨some 30, .faddr 1 (.tmp 4), none⟩,
 ⟨some 31, .load false 1 (.tmp 30), none⟩,
 ⟨some 32, .mkfn 145 [(.tmp 6), (.tmp 5)], none⟩,
 ⟨some 33, .call (.func 144) [(.tmp 31), (.tmp 32)], none⟩,
 ⟨some 10, .mov (.tmp 33), none⟩])
 (.seq
 (.seq
 (.reg [⟨some 34, .mov (.tmp 10), none⟩,
 ⟨some 35, .bin .geq .int (.tmp 34) (.const (.int .i64 0)), none⟩])
 (.cond (.tmp 35)
 (.seq
 (.dreg [⟨some 36, .load true 3 (.tmp 5), none⟩,
 ⟨some 37, .call (.func 142) [(.tmp 36)], none⟩,
 ⟨some 38, .load false 1 (.tmp 6), none⟩,
 ⟨some 39, .mov (.tmp 10), none⟩,
 ⟨some 40, .build [(.int .i64 0), (.int .i64 0), (.slice none 0 0), (.int .i64 0), (.int .i64 0), (.int .i64 0), (.slice none 0 0), (.slice none 0 0)] [(0, 3), (3, 1), (4, 1), (5, 1), (6, 1), (7, 1)] [(0, (.tmp 37)), (1, (.tmp 38)), (2, (.const (.int .i64 (-1)))), (3, (.tmp 39))], none⟩,
 ⟨none, .store 8 (.tmp 8) (.tmp 40), none⟩,
 ⟨some 9, .mov (.const (.bool true)), none⟩]
 [[], [0], [], [], [1, 2, 3], [4, 1, 0, 1, 2, 3, 4], [5, 0, 1, 2, 3, 4, 5]]
 [[5], [36], [6], [10], [37, 38, 39], [8, 40], []])
 (.ret))
 (.skip)))
 (.seq
 (.reg [⟨some 42, .load true 2 (.tmp 4), none⟩,
 ⟨some 43, .load true 3 (.tmp 5), none⟩,
 ⟨some 44, .load false 1 (.tmp 6), none⟩,
 ⟨some 45, .call (.func 146) [(.tmp 42), (.tmp 43), (.tmp 44)], none⟩,
 ⟨some 41, .mov (.tmp 45), none⟩,
 ⟨some 46, .ext (.tmp 41) 0, none⟩,
 ⟨some 47, .ext (.tmp 41) 1, none⟩,
 ⟨some 11, .mov (.tmp 46), none⟩,
 ⟨some 12, .mov (.tmp 47), none⟩])
 (.seq
 (.seq
 (.reg [⟨some 48, .mov (.tmp 11), none⟩,
 ⟨some 49, .bin .lss .int (.tmp 48) (.const (.int .i64 0)), none⟩,
 ⟨some 50, .mov (.tmp 49), none⟩,
 ⟨some 51, .faddr 0 (.tmp 4), some (50, false)⟩,
 ⟨some 52, .load false 1 (.tmp 51), some (50, false)⟩,
 ⟨some 53, .mov (.tmp 11), some (50, false)⟩,
 ⟨some 54, .iaddr 7 (.tmp 52) (.tmp 53), some (50, false)⟩,
 ⟨some 55, .faddr 5 (.tmp 54), some (50, false)⟩,
 ⟨some 56, .load false 1 (.tmp 55), some (50, false)⟩,
 ⟨some 57, .slen false (.tmp 56), some (50, false)⟩,
 ⟨some 58, .bin .gtr .int (.tmp 57) (.const (.int .i64 4)), some (50, false)⟩,
 ⟨some 59, .pick (.tmp 50) (.const (.bool true)) (.tmp 58), none⟩])
 (.cond (.tmp 59)
 (.seq
 (.reg [⟨some 60, .build [(.int .i64 0), (.int .i64 0), (.slice none 0 0), (.int .i64 0), (.int .i64 0), (.int .i64 0), (.slice none 0 0), (.slice none 0 0)] [(0, 3), (3, 1), (4, 1), (5, 1), (6, 1), (7, 1)] [], none⟩,
 ⟨none, .store 8 (.tmp 8) (.tmp 60), none⟩,
 ⟨some 9, .mov (.const (.bool false)), none⟩])
 (.ret))
 (.skip)))
 (.seq
 (.dreg [⟨some 61, .load true 3 (.tmp 5), none⟩,
 ⟨some 62, .call (.func 142) [(.tmp 61)], none⟩,
 ⟨some 63, .load false 1 (.tmp 6), none⟩,
 ⟨some 64, .mov (.tmp 11), none⟩,
 ⟨some 65, .mov (.tmp 12), none⟩,
 ⟨some 66, .build [(.int .i64 0), (.int .i64 0), (.slice none 0 0), (.int .i64 0), (.int .i64 0), (.int .i64 0), (.slice none 0 0), (.slice none 0 0)] [(0, 3), (3, 1), (4, 1), (5, 1), (6, 1), (7, 1)] [(0, (.tmp 62)), (1, (.tmp 63)), (2, (.tmp 64)), (3, (.const (.int .i64 (-1)))), (4, (.tmp 65))], none⟩,
 ⟨some 13, .alloc 30 8 [(.int .i64 0), (.int .i64 0), (.slice none 0 0), (.int .i64 0), (.int .i64 0), (.int .i64 0), (.slice none 0 0), (.slice none 0 0)], none⟩,
 ⟨none, .store 8 (.tmp 13) (.tmp 66), none⟩]
 [[], [0], [], [], [], [1, 2, 3, 4], [], [6, 5, 1, 0, 1, 2, 3, 4, 5, 6]]
 [[5], [61], [6], [11], [12], [62, 63, 64, 65], [], [13, 66]])
 (.seq
 (.seq
 (.reg [⟨some 67, .faddr 0 (.tmp 4), none⟩,
 ⟨some 68, .load false 1 (.tmp 67), none⟩,
 ⟨some 69, .mov (.tmp 11), none⟩,
 ⟨some 70, .iaddr 7 (.tmp 68) (.tmp 69), none⟩,
 ⟨some 71, .faddr 5 (.tmp 70), none⟩,
 ⟨some 72, .load false 1 (.tmp 71), none⟩,
 ⟨some 73, .slen false (.tmp 72), none⟩,
 ⟨some 74, .mov (.const (.int .i64 0)), none⟩])
 (.block 0
 (.loop ac77_l0)))
 (.seq
 (.reg [⟨some 107, .load true 8 (.tmp 13), none⟩,
 ⟨none, .store 8 (.tmp 8) (.tmp 107), none⟩,
 ⟨some 9, .mov (.const (.bool true)), none⟩])
 (.ret)))))))))
theorem fn77 : Fun Try.prog 77 108 ac77 [.cell 8 8 true, .tmp 9] := ⟨mixedU, Try.f77, _, Try.func77, rfl, by decide +kernel, rfl, by kernel_rfl, by kernel_rfl⟩
/- slices.EqualFunc[[]glossator/api.Type,[]glossator/api.Type,glossator/api.Type,glossator/api.Type] -/
def ac79_l0 : AC := .seq
 (.reg [⟨some 18, .bin .lss .int (.tmp 17) (.tmp 16), none⟩])
 (.seq
 (.cond (.tmp 18)
 (.skip)
 (.exit 0))
 (.seq
 (.block 1
 (.seq
 (.reg [⟨some 19, .mov (.tmp 17), none⟩,
 ⟨some 20, .iaddr 3 (.tmp 15) (.tmp 17), none⟩,
 ⟨some 21, .load true 3 (.tmp 20), none⟩,
 ⟨some 8, .alloc 26 3 [(.int .i64 0), (.int .i64 0), (.slice none 0 0)], none⟩,
 ⟨some 7, .mov (.tmp 19), none⟩,
 ⟨none, .store 3 (.tmp 8) (.tmp 21), none⟩])
 (.seq
 (.reg [⟨some 22, .mov (.tmp 1), none⟩,
 ⟨some 23, .mov (.tmp 7), none⟩,
 ⟨some 24, .iaddr 3 (.tmp 22) (.tmp 23), none⟩,
 ⟨some 25, .load true 3 (.tmp 24), none⟩,
 ⟨some 9, .alloc 26 3 [(.int .i64 0), (.int .i64 0), (.slice none 0 0)], none⟩,
 ⟨none, .store 3 (.tmp 9) (.tmp 25), none⟩])
 (.seq
 (.reg [⟨some 26, .mov (.tmp 2), none⟩,
 ⟨some 27, .load true 3 (.tmp 8), none⟩,
 ⟨some 28, .load true 3 (.tmp 9), none⟩,
 ⟨some 29, .call (.tmp 26) [(.tmp 27), (.tmp 28)], none⟩,
 ⟨some 30, .un .not (.tmp 29), none⟩])
 (.cond (.tmp 30)
 (.seq
 (.reg [⟨some 6, .mov (.const (.bool false)), none⟩])
 (.ret))
 (.skip))))))
 (.reg [⟨some 31, .bin .add .int (.tmp 17) (.const (.int .i64 1)), none⟩,
 ⟨some 17, .mov (.tmp 31), none⟩])))
def ac79 : AC := .seq
 (.reg [⟨some 6, .mov (.const (.bool false)), none⟩])
 (.seq
 (.seq
 (.reg [⟨some 10, .mov (.tmp 0), none⟩,
 ⟨some 11, .slen false (.tmp 10), none⟩,
 ⟨some 12, .mov (.tmp 1), none⟩,
 ⟨some 13, .slen false (.tmp 12), none⟩,
 ⟨some 14, .bin .neq .int (.tmp 11) (.tmp 13), none⟩])
 (.cond (.tmp 14)
 (.seq
 (.reg [⟨some 6, .mov (.const (.bool false)), none⟩])
 (.ret))
 (.skip)))
 (.seq
 (.seq
 (.reg [⟨some 15, .mov (.tmp 0), none⟩,
 ⟨some 16, .slen false (.tmp 15), none⟩,
 ⟨some 17, .mov (.const (.int .i64 0)), none⟩])
 (.block 0
 (.loop ac79_l0)))
 (.seq
 (.reg [⟨some 6, .mov (.const (.bool true)), none⟩])
 (.ret))))
theorem fn79 : Fun Try.prog 79 32 ac79 [.tmp 6] := ⟨mixedU, Try.f79, _, Try.func79, rfl, by decide +kernel, rfl, by kernel_rfl, by kernel_rfl⟩
/- glossator/scheme.Apply -/
def ac80 : AC := .seq
 (.reg [⟨some 3, .box 26 3 (.tmp 0), none⟩,
 ⟨some 4, .box 38 1 (.tmp 1), none⟩,
 ⟨some 5, .box 24 1 (.tmp 2), none⟩,
 ⟨some 6, .alloc 26 3 [(.int .i64 0), (.int .i64 0), (.slice none 0 0)], none⟩])
 (.seq
 (.reg [⟨some 7, .load true 3 (.tmp 3), none⟩,
 ⟨some 8, .mkfn 147 [(.tmp 4), (.tmp 5)], none⟩,
 ⟨some 9, .call (.func 138) [(.tmp 7), (.tmp 8)], none⟩,
 ⟨none, .store 3 (.tmp 6) (.tmp 9), none⟩])
 (.ret))
theorem fn80 : Fun Try.prog 80 10 ac80 [.cell 6 3 true] := ⟨mixedU, Try.f80, _, Try.func80, rfl, by decide +kernel, rfl, by kernel_rfl, by kernel_rfl⟩
/- glossator/glossatorlaw2.typ -/
def ac81 : AC := .seq
 (.reg [⟨some 6, .alloc 26 3 [(.int .i64 0), (.int .i64 0), (.slice none 0 0)], none⟩])
 (.seq
 (.reg [⟨some 7, .mov (.tmp 0), none⟩,
 ⟨some 8, .mov (.tmp 1), none⟩,
 ⟨some 9, .mov (.tmp 2), none⟩,
 ⟨some 10, .build [(.int .i64 0), (.int .i64 0), (.slice none 0 0)] [(0, 1), (1, 1), (2, 1)] [(0, (.tmp 7)), (1, (.tmp 8)), (2, (.tmp 9))], none⟩,
 ⟨none, .store 3 (.tmp 6) (.tmp 10), none⟩])
 (.ret))
theorem fn81 : Fun Try.prog 81 11 ac81 [.cell 6 3 true] := ⟨mixedU, Try.f81, _, Try.func81, rfl, by decide +kernel, rfl, by kernel_rfl, by kernel_rfl⟩
/- glossator/glossatorlaw2.intType -/
def ac82 : AC := .seq
 (.reg [⟨some 0, .alloc 26 3 [(.int .i64 0), (.int .i64 0), (.slice none 0 0)], none⟩])
 (.seq
 (.reg [⟨some 1, .call (.func 81) [(.const (.int .i64 3)), (.const (.int .i64 0)), (.const (.slice none 0 0))], none⟩,
 ⟨none, .store 3 (.tmp 0) (.tmp 1), none⟩])
 (.ret))
theorem fn82 : Fun Try.prog 82 2 ac82 [.cell 0 3 true] := ⟨mixedU, Try.f82, _, Try.func82, rfl, by decide +kernel, rfl, by kernel_rfl, by kernel_rfl⟩
/- glossator/glossatorref2.MatchScheme -/
def ac84_l0 : AC := .seq
 (.reg [⟨some 36, .bin .lss .int (.tmp 35) (.tmp 34), none⟩])
 (.seq
 (.cond (.tmp 36)
 (.skip)
 (.exit 2))
 (.seq
 (.block 3
 (.seq
 (.reg [⟨some 37, .mov (.tmp 35), none⟩,
 ⟨some 38, .iaddr 1 (.tmp 33) (.tmp 35), none⟩,
 ⟨some 39, .load false 1 (.tmp 38), none⟩,
 ⟨some 15, .mov (.tmp 37), none⟩,
 ⟨some 16, .mov (.tmp 39), none⟩])
 (.seq
 (.seq
 (.reg [⟨some 40, .mov (.tmp 16), none⟩,
 ⟨some 41, .mov (.tmp 12), none⟩,
 ⟨some 42, .bin .neq .int (.tmp 40) (.tmp 41), none⟩])
 (.cond (.tmp 42)
 (.exit 3)
 (.skip)))
 (.seq
 (.seq
 (.dreg [⟨some 43, .mov (.tmp 14), none⟩,
 ⟨some 44, .mov (.tmp 43), none⟩,
 ⟨some 45, .mov (.tmp 9), some (44, true)⟩,
 ⟨some 46, .mov (.tmp 15), some (44, true)⟩,
 ⟨some 47, .iaddr 3 (.tmp 45) (.tmp 46), some (44, true)⟩,
 ⟨some 48, .load true 3 (.tmp 47), some (44, true)⟩,
 ⟨some 49, .load true 3 (.tmp 13), some (44, true)⟩,
 ⟨some 50, .call (.func 35) [(.tmp 48), (.tmp 49)], some (44, true)⟩,
 ⟨some 51, .un .not (.tmp 50), some (44, true)⟩,
 ⟨some 52, .pick (.tmp 44) (.tmp 51) (.const (.bool false)), none⟩]
 [[], [0], [1], [1], [2, 3, 1], [4, 1], [1], [5, 6, 1, 1], [7, 1], [1, 8]]
 [[14], [43], [9, 44], [15, 44], [45, 46, 44], [47, 44], [13, 44], [48, 49, 44], [50, 44], [44, 51]])
 (.cond (.tmp 52)
 (.seq
 (.reg [⟨some 6, .mov (.const (.slice none 0 0)), none⟩,
 ⟨some 7, .mov (.const (.bool false)), none⟩])
 (.ret))
 (.skip)))
 (.seq
 (.reg [⟨some 53, .mov (.tmp 14), none⟩,
 ⟨some 54, .un .not (.tmp 53), none⟩])
 (.cond (.tmp 54)
 (.reg [⟨some 55, .mov (.tmp 9), none⟩,
 ⟨some 56, .mov (.tmp 15), none⟩,
 ⟨some 57, .iaddr 3 (.tmp 55) (.tmp 56), none⟩,
 ⟨some 58, .load true 3 (.tmp 57), none⟩,
 ⟨none, .store 3 (.tmp 13) (.tmp 58), none⟩,
 ⟨some 14, .mov (.const (.bool true)), none⟩])
 (.skip)))))))
 (.reg [⟨some 59, .bin .add .int (.tmp 35) (.const (.int .i64 1)), none⟩,
 ⟨some 35, .mov (.tmp 59), none⟩])))
def ac84_l1 : AC := .seq
 (.reg [⟨some 30, .bin .lss .int (.tmp 29) (.tmp 28), none⟩])
 (.seq
 (.cond (.tmp 30)
 (.skip)
 (.exit 0))
 (.seq
 (.block 1
 (.seq
 (.reg [⟨some 31, .mov (.tmp 29), none⟩,
 ⟨some 12, .mov (.tmp 31), none⟩])
 (.seq
 (.reg [⟨some 32, .build [(.int .i64 0), (.int .i64 0), (.slice none 0 0)] [(0, 1), (1, 1), (2, 1)] [], none⟩,
 ⟨some 13, .alloc 26 3 [(.int .i64 0), (.int .i64 0), (.slice none 0 0)], none⟩,
 ⟨none, .store 3 (.tmp 13) (.tmp 32), none⟩])
 (.seq
 (.reg [⟨some 14, .mov (.const (.bool false)), none⟩])
 (.seq
 (.seq
 (.reg [⟨some 33, .mov (.tmp 8), none⟩,
 ⟨some 34, .slen false (.tmp 33), none⟩,
 ⟨some 35, .mov (.const (.int .i64 0)), none⟩])
 (.block 2
 (.loop ac84_l0)))
 (.reg [⟨some 60, .mov (.tmp 11), none⟩,
 ⟨some 61, .load true 3 (.tmp 13), none⟩,
 ⟨some 62, .bslice 26 3 [(.int .i64 0), (.int .i64 0), (.slice none 0 0)] 1 [(0, (.tmp 61))], none⟩,
 ⟨some 63, .app 26 3 (.tmp 60) (.tmp 62), none⟩,
 ⟨some 11, .mov (.tmp 63), none⟩]))))))
 (.reg [⟨some 64, .bin .add .int (.tmp 29) (.const (.int .i64 1)), none⟩,
 ⟨some 29, .mov (.tmp 64), none⟩])))
def ac84 : AC := .seq
 (.reg [⟨some 3, .box 26 3 (.tmp 0), none⟩,
 ⟨some 4, .box 26 3 (.tmp 1), none⟩,
 ⟨some 6, .mov (.const (.slice none 0 0)), none⟩,
 ⟨some 7, .mov (.const (.bool false)), none⟩])
 (.seq
 (.reg [⟨some 18, .load true 3 (.tmp 3), none⟩,
 ⟨some 19, .load true 3 (.tmp 4), none⟩,
 ⟨some 20, .mov (.tmp 2), none⟩,
 ⟨some 21, .call (.func 148) [(.tmp 18), (.tmp 19), (.tmp 20)], none⟩,
 ⟨some 17, .mov (.tmp 21), none⟩,
 ⟨some 22, .ext (.tmp 17) 0, none⟩,
 ⟨some 23, .ext (.tmp 17) 1, none⟩,
 ⟨some 24, .ext (.tmp 17) 2, none⟩,
 ⟨some 8, .mov (.tmp 22), none⟩,
 ⟨some 9, .mov (.tmp 23), none⟩,
 ⟨some 10, .mov (.tmp 24), none⟩])
 (.seq
 (.seq
 (.reg [⟨some 25, .mov (.tmp 10), none⟩,
 ⟨some 26, .un .not (.tmp 25), none⟩])
 (.cond (.tmp 26)
 (.seq
 (.reg [⟨some 6, .mov (.const (.slice none 0 0)), none⟩,
 ⟨some 7, .mov (.const (.bool false)), none⟩])
 (.ret))
 (.skip)))
 (.seq
 (.reg [⟨some 11, .mov (.const (.slice none 0 0)), none⟩])
 (.seq
 (.seq
 (.reg [⟨some 27, .mov (.tmp 2), none⟩,
 ⟨some 28, .slen false (.tmp 27), none⟩,
 ⟨some 29, .mov (.const (.int .i64 0)), none⟩])
 (.block 0
 (.loop ac84_l1)))
 (.seq
 (.reg [⟨some 65, .mov (.tmp 11), none⟩,
 ⟨some 6, .mov (.tmp 65), none⟩,
 ⟨some 7, .mov (.const (.bool true)), none⟩])
 (.ret))))))
theorem fn84 : Fun Try.prog 84 66 ac84 [.tmp 6, .tmp 7] := ⟨mixedU, Try.f84, _, Try.func84, rfl, by decide +kernel, rfl, by kernel_rfl, by kernel_rfl⟩
/- glossator/glossatorref2.paramOccurs -/
def ac85_l0 : AC := .seq
 (.reg [⟨some 21, .bin .lss .int (.tmp 20) (.tmp 19), none⟩])
 (.seq
 (.cond (.tmp 21)
 (.skip)
 (.exit 0))
 (.seq
 (.block 1
 (.seq
 (.reg [⟨some 22, .iaddr 3 (.tmp 18) (.tmp 20), none⟩,
 ⟨some 23, .load true 3 (.tmp 22), none⟩,
 ⟨some 7, .alloc 26 3 [(.int .i64 0), (.int .i64 0), (.slice none 0 0)], none⟩,
 ⟨none, .store 3 (.tmp 7) (.tmp 23), none⟩])
 (.reg [⟨some 24, .mov (.tmp 5), none⟩,
 ⟨some 25, .mov (.tmp 24), none⟩,
 ⟨some 26, .load true 3 (.tmp 7), some (25, false)⟩,
 ⟨some 27, .mov (.tmp 1), some (25, false)⟩,
 ⟨some 28, .call (.func 85) [(.tmp 26), (.tmp 27)], some (25, false)⟩,
 ⟨some 29, .pick (.tmp 25) (.const (.bool true)) (.tmp 28), none⟩,
 ⟨some 5, .mov (.tmp 29), none⟩])))
 (.reg [⟨some 30, .bin .add .int (.tmp 20) (.const (.int .i64 1)), none⟩,
 ⟨some 20, .mov (.tmp 30), none⟩])))
def ac85 : AC := .seq
 (.reg [⟨some 2, .box 26 3 (.tmp 0), none⟩,
 ⟨some 4, .mov (.const (.bool false)), none⟩])
 (.seq
 (.reg [⟨some 8, .faddr 0 (.tmp 2), none⟩,
 ⟨some 9, .load false 1 (.tmp 8), none⟩,
 ⟨some 10, .bin .eql .int (.tmp 9) (.const (.int .i64 2)), none⟩,
 ⟨some 11, .mov (.tmp 10), none⟩,
 ⟨some 12, .faddr 1 (.tmp 2), some (11, true)⟩,
 ⟨some 13, .load false 1 (.tmp 12), some (11, true)⟩,
 ⟨some 14, .mov (.tmp 1), some (11, true)⟩,
 ⟨some 15, .bin .eql .int (.tmp 13) (.tmp 14), some (11, true)⟩,
 ⟨some 16, .pick (.tmp 11) (.tmp 15) (.const (.bool false)), none⟩,
 ⟨some 5, .mov (.tmp 16), none⟩])
 (.seq
 (.seq
 (.reg [⟨some 17, .faddr 2 (.tmp 2), none⟩,
 ⟨some 18, .load false 1 (.tmp 17), none⟩,
 ⟨some 19, .slen false (.tmp 18), none⟩,
 ⟨some 20, .mov (.const (.int .i64 0)), none⟩])
 (.block 0
 (.loop ac85_l0)))
 (.seq
 (.reg [⟨some 31, .mov (.tmp 5), none⟩,
 ⟨some 4, .mov (.tmp 31), none⟩])
 (.ret))))
theorem fn85 : Fun Try.prog 85 32 ac85 [.tmp 4] := ⟨mixedU, Try.f85, _, Try.func85, rfl, by decide +kernel, rfl, by kernel_rfl, by kernel_rfl⟩
/- glossator/glossatorref2.ApplyArgs -/
def ac86_l0 : AC := .seq
 (.reg [⟨some 29, .bin .lss .int (.tmp 28) (.tmp 27), none⟩])
 (.seq
 (.cond (.tmp 29)
 (.skip)
 (.exit 0))
 (.seq
 (.block 1
 (.seq
 (.reg [⟨some 30, .iaddr 3 (.tmp 26) (.tmp 28), none⟩,
 ⟨some 31, .load true 3 (.tmp 30), none⟩,
 ⟨some 10, .alloc 26 3 [(.int .i64 0), (.int .i64 0), (.slice none 0 0)], none⟩,
 ⟨none, .store 3 (.tmp 10) (.tmp 31), none⟩])
 (.reg [⟨some 32, .mov (.tmp 8), none⟩,
 ⟨some 33, .load true 3 (.tmp 10), none⟩,
 ⟨some 34, .mov (.tmp 1), none⟩,
 ⟨some 35, .mov (.tmp 2), none⟩,
 ⟨some 36, .call (.func 86) [(.tmp 33), (.tmp 34), (.tmp 35)], none⟩,
 ⟨some 37, .bslice 26 3 [(.int .i64 0), (.int .i64 0), (.slice none 0 0)] 1 [(0, (.tmp 36))], none⟩,
 ⟨some 38, .app 26 3 (.tmp 32) (.tmp 37), none⟩,
 ⟨some 8, .mov (.tmp 38), none⟩])))
 (.reg [⟨some 39, .bin .add .int (.tmp 28) (.const (.int .i64 1)), none⟩,
 ⟨some 28, .mov (.tmp 39), none⟩])))
def ac86 : AC := .seq
 (.reg [⟨some 3, .box 26 3 (.tmp 0), none⟩,
 ⟨some 6, .alloc 26 3 [(.int .i64 0), (.int .i64 0), (.slice none 0 0)], none⟩])
 (.seq
 (.seq
 (.reg [⟨some 11, .load true 3 (.tmp 3), none⟩,
 ⟨some 12, .mov (.tmp 1), none⟩,
 ⟨some 13, .call (.func 149) [(.tmp 11), (.tmp 12)], none⟩,
 ⟨some 7, .mov (.tmp 13), none⟩])
 (.seq
 (.reg [⟨some 14, .mov (.tmp 7), none⟩,
 ⟨some 15, .bin .geq .int (.tmp 14) (.const (.int .i64 0)), none⟩])
 (.cond (.tmp 15)
 (.seq
 (.seq
 (.reg [⟨some 16, .mov (.tmp 7), none⟩,
 ⟨some 17, .mov (.tmp 2), none⟩,
 ⟨some 18, .slen false (.tmp 17), none⟩,
 ⟨some 19, .bin .lss .int (.tmp 16) (.tmp 18), none⟩])
 (.cond (.tmp 19)
 (.seq
 (.reg [⟨some 20, .mov (.tmp 2), none⟩,
 ⟨some 21, .mov (.tmp 7), none⟩,
 ⟨some 22, .iaddr 3 (.tmp 20) (.tmp 21), none⟩,
 ⟨some 23, .load true 3 (.tmp 22), none⟩,
 ⟨none, .store 3 (.tmp 6) (.tmp 23), none⟩])
 (.ret))
 (.skip)))
 (.seq
 (.reg [⟨some 24, .load true 3 (.tmp 3), none⟩,
 ⟨none, .store 3 (.tmp 6) (.tmp 24), none⟩])
 (.ret)))
 (.skip))))
 (.seq
 (.reg [⟨some 8, .mov (.const (.slice none 0 0)), none⟩])
 (.seq
 (.seq
 (.reg [⟨some 25, .faddr 2 (.tmp 3), none⟩,
 ⟨some 26, .load false 1 (.tmp 25), none⟩,
 ⟨some 27, .slen false (.tmp 26), none⟩,
 ⟨some 28, .mov (.const (.int .i64 0)), none⟩])
 (.block 0
 (.loop ac86_l0)))
 (.seq
 (.reg [⟨some 40, .mov (.tmp 8), none⟩,
 ⟨some 41, .faddr 2 (.tmp 3), none⟩,
 ⟨none, .store 1 (.tmp 41) (.tmp 40), none⟩])
 (.seq
 (.reg [⟨some 42, .load true 3 (.tmp 3), none⟩,
 ⟨none, .store 3 (.tmp 6) (.tmp 42), none⟩])
 (.ret))))))
theorem fn86 : Fun Try.prog 86 43 ac86 [.cell 6 3 true] := ⟨mixedU, Try.f86, _, Try.func86, rfl, by decide +kernel, rfl, by kernel_rfl, by kernel_rfl⟩
/- (*glossator/assoctypes.normalizer).normalize -/
def ac89_l0 : AC := .seq
 (.reg [⟨some 19, .bin .lss .int (.tmp 18) (.tmp 17), none⟩])
 (.seq
 (.cond (.tmp 19)
 (.skip)
 (.exit 0))
 (.seq
 (.block 1
 (.seq
 (.reg [⟨some 20, .iaddr 3 (.tmp 16) (.tmp 18), none⟩,
 ⟨some 21, .load true 3 (.tmp 20), none⟩,
 ⟨some 9, .alloc 26 3 [(.int .i64 0), (.int .i64 0), (.slice none 0 0)], none⟩,
 ⟨none, .store 3 (.tmp 9) (.tmp 21), none⟩])
 (.dreg [⟨some 22, .faddr 2 (.tmp 7), none⟩,
 ⟨some 23, .load false 1 (.tmp 22), none⟩,
 ⟨some 24, .mov (.tmp 0), none⟩,
 ⟨some 25, .load true 3 (.tmp 9), none⟩,
 ⟨some 26, .mov (.tmp 2), none⟩,
 ⟨some 27, .call (.func 89) [(.tmp 24), (.tmp 25), (.tmp 26)], none⟩,
 ⟨some 28, .bslice 26 3 [(.int .i64 0), (.int .i64 0), (.slice none 0 0)] 1 [(0, (.tmp 27))], none⟩,
 ⟨some 29, .app 26 3 (.tmp 23) (.tmp 28), none⟩,
 ⟨some 30, .faddr 2 (.tmp 7), none⟩,
 ⟨none, .store 1 (.tmp 30) (.tmp 29), none⟩]
 [[], [0], [], [], [], [2, 3, 4], [5], [1, 6, 5], [0, 1, 2, 3, 4, 5, 6, 7], [8, 7, 7, 0, 1, 2, 3, 4, 5, 6, 7]]
 [[7], [22], [0], [9], [2], [24, 25, 26], [27], [23, 28], [7], [30, 29]])))
 (.reg [⟨some 31, .bin .add .int (.tmp 18) (.const (.int .i64 1)), none⟩,
 ⟨some 18, .mov (.tmp 31), none⟩])))
def ac89 : AC := .seq
 (.reg [⟨some 4, .box 26 3 (.tmp 1), none⟩,
 ⟨some 6, .alloc 26 3 [(.int .i64 0), (.int .i64 0), (.slice none 0 0)], none⟩])
 (.seq
 (.reg [⟨some 10, .faddr 0 (.tmp 4), none⟩,
 ⟨some 11, .load false 1 (.tmp 10), none⟩,
 ⟨some 12, .faddr 1 (.tmp 4), none⟩,
 ⟨some 13, .load false 1 (.tmp 12), none⟩,
 ⟨some 14, .build [(.int .i64 0), (.int .i64 0), (.slice none 0 0)] [(0, 1), (1, 1), (2, 1)] [(0, (.tmp 11)), (1, (.tmp 13))], none⟩,
 ⟨some 7, .alloc 26 3 [(.int .i64 0), (.int .i64 0), (.slice none 0 0)], none⟩,
 ⟨none, .store 3 (.tmp 7) (.tmp 14), none⟩])
 (.seq
 (.seq
 (.reg [⟨some 15, .faddr 2 (.tmp 4), none⟩,
 ⟨some 16, .load false 1 (.tmp 15), none⟩,
 ⟨some 17, .slen false (.tmp 16), none⟩,
 ⟨some 18, .mov (.const (.int .i64 0)), none⟩])
 (.block 0
 (.loop ac89_l0)))
 (.seq
 (.seq
 (.reg [⟨some 32, .faddr 0 (.tmp 4), none⟩,
 ⟨some 33, .load false 1 (.tmp 32), none⟩,
 ⟨some 34, .bin .eql .int (.tmp 33) (.const (.int .i64 10)), none⟩])
 (.cond (.tmp 34)
 (.seq
 (.reg [⟨some 35, .mov (.tmp 0), none⟩,
 ⟨some 36, .load true 3 (.tmp 7), none⟩,
 ⟨some 37, .mov (.tmp 2), none⟩,
 ⟨some 38, .call (.func 150) [(.tmp 35), (.tmp 36), (.tmp 37)], none⟩,
 ⟨none, .store 3 (.tmp 6) (.tmp 38), none⟩])
 (.ret))
 (.skip)))
 (.seq
 (.reg [⟨some 39, .load true 3 (.tmp 7), none⟩,
 ⟨none, .store 3 (.tmp 6) (.tmp 39), none⟩])
 (.ret)))))
theorem fn89 : Fun Try.prog 89 40 ac89 [.cell 6 3 true] := ⟨mixedU, Try.f89, _, Try.func89, rfl, by decide +kernel, rfl, by kernel_rfl, by kernel_rfl⟩
/- slices.ContainsFunc[[]glossator/api.Type,glossator/api.Type] -/
def ac90 : AC := .seq
 (.reg [⟨some 4, .mov (.const (.bool false)), none⟩])
 (.seq
 (.reg [⟨some 5, .mov (.tmp 0), none⟩,
 ⟨some 6, .mov (.tmp 1), none⟩,
 ⟨some 7, .call (.func 151) [(.tmp 5), (.tmp 6)], none⟩,
 ⟨some 8, .bin .geq .int (.tmp 7) (.const (.int .i64 0)), none⟩,
 ⟨some 4, .mov (.tmp 8), none⟩])
 (.ret))
theorem fn90 : Fun Try.prog 90 9 ac90 [.tmp 4] := ⟨mixedU, Try.f90, _, Try.func90, rfl, by decide +kernel, rfl, by kernel_rfl, by kernel_rfl⟩
/- glossator/types.measure -/
def ac91_l0 : AC := .seq
 (.reg [⟨some 14, .bin .lss .int (.tmp 13) (.tmp 12), none⟩])
 (.seq
 (.cond (.tmp 14)
 (.skip)
 (.exit 0))
 (.seq
 (.block 1
 (.seq
 (.reg [⟨some 15, .iaddr 3 (.tmp 11) (.tmp 13), none⟩,
 ⟨some 16, .load true 3 (.tmp 15), none⟩,
 ⟨some 7, .alloc 26 3 [(.int .i64 0), (.int .i64 0), (.slice none 0 0)], none⟩,
 ⟨none, .store 3 (.tmp 7) (.tmp 16), none⟩])
 (.seq
 (.seq
 (.reg [⟨some 17, .mov (.tmp 4), none⟩,
 ⟨some 18, .mov (.tmp 1), none⟩,
 ⟨some 19, .bin .gtr .int (.tmp 17) (.tmp 18), none⟩])
 (.cond (.tmp 19)
 (.exit 0)
 (.skip)))
 (.seq
 (.reg [⟨some 21, .load true 3 (.tmp 7), none⟩,
 ⟨some 22, .mov (.tmp 1), none⟩,
 ⟨some 23, .mov (.tmp 4), none⟩,
 ⟨some 24, .bin .sub .int (.tmp 22) (.tmp 23), none⟩,
 ⟨some 25, .call (.func 91) [(.tmp 21), (.tmp 24)], none⟩,
 ⟨some 20, .mov (.tmp 25), none⟩,
 ⟨some 26, .ext (.tmp 20) 0, none⟩,
 ⟨some 27, .ext (.tmp 20) 1, none⟩,
 ⟨some 8, .mov (.tmp 26), none⟩,
 ⟨some 9, .mov (.tmp 27), none⟩])
 (.reg [⟨some 28, .mov (.tmp 4), none⟩,
 ⟨some 29, .mov (.tmp 8), none⟩,
 ⟨some 30, .bin .add .int (.tmp 28) (.tmp 29), none⟩,
 ⟨some 31, .mov (.tmp 5), none⟩,
 ⟨some 32, .mov (.tmp 9), none⟩,
 ⟨some 33, .minmax false (.tmp 31) (.tmp 32), none⟩,
 ⟨some 4, .mov (.tmp 30), none⟩,
 ⟨some 5, .mov (.tmp 33), none⟩])))))
 (.reg [⟨some 34, .bin .add .int (.tmp 13) (.const (.int .i64 1)), none⟩,
 ⟨some 13, .mov (.tmp 34), none⟩])))
def ac91 : AC := .seq
 (.reg [⟨some 2, .box 26 3 (.tmp 0), none⟩,
 ⟨some 4, .mov (.const (.int .i64 0)), none⟩,
 ⟨some 5, .mov (.const (.int .i64 0)), none⟩])
 (.seq
 (.reg [⟨some 4, .mov (.const (.int .i64 1)), none⟩])
 (.seq
 (.seq
 (.reg [⟨some 10, .faddr 2 (.tmp 2), none⟩,
 ⟨some 11, .load false 1 (.tmp 10), none⟩,
 ⟨some 12, .slen false (.tmp 11), none⟩,
 ⟨some 13, .mov (.const (.int .i64 0)), none⟩])
 (.block 0
 (.loop ac91_l0)))
 (.seq
 (.reg [⟨some 35, .mov (.tmp 4), none⟩,
 ⟨some 36, .mov (.tmp 5), none⟩,
 ⟨some 37, .bin .add .int (.tmp 36) (.const (.int .i64 1)), none⟩,
 ⟨some 4, .mov (.tmp 35), none⟩,
 ⟨some 5, .mov (.tmp 37), none⟩])
 (.ret))))
theorem fn91 : Fun Try.prog 91 38 ac91 [.tmp 4, .tmp 5] := ⟨mixedU, Try.f91, _, Try.func91, rfl, by decide +kernel, rfl, by kernel_rfl, by kernel_rfl⟩
/- glossator/types.wellFormed -/
def ac92 : AC := .seq
 (.reg [⟨some 1, .box 26 3 (.tmp 0), none⟩,
 ⟨some 2, .mov (.const (.bool false)), none⟩])
 (.seq
 (.reg [⟨some 3, .load true 3 (.tmp 1), none⟩,
 ⟨some 4, .call (.func 152) [(.tmp 3)], none⟩,
 ⟨some 5, .mov (.tmp 4), none⟩,
 ⟨some 6, .faddr 2 (.tmp 1), some (5, true)⟩,
 ⟨some 7, .load false 1 (.tmp 6), some (5, true)⟩,
 ⟨some 8, .call (.func 90) [(.tmp 7), (.func 153)], some (5, true)⟩,
 ⟨some 9, .un .not (.tmp 8), some (5, true)⟩,
 ⟨some 10, .pick (.tmp 5) (.tmp 9) (.const (.bool false)), none⟩,
 ⟨some 2, .mov (.tmp 10), none⟩])
 (.ret))
theorem fn92 : Fun Try.prog 92 11 ac92 [.tmp 2] := ⟨mixedU, Try.f92, _, Try.func92, rfl, by decide +kernel, rfl, by kernel_rfl, by kernel_rfl⟩
/- glossator/glossatorlaw2.iterSymbols -/
def ac93 : AC := .seq
 (.reg [⟨some 0, .alloc 50 3 [(.slice none 0 0), (.slice none 0 0), (.slice none 0 0)], none⟩,
 ⟨some 1, .mov (.const (.slice none 0 0)), none⟩])
 (.seq
 (.reg [⟨some 4, .build [(.int .i64 0), (.int .i64 0), (.int .i64 0), (.int .i64 0), (.string ⟨#[]⟩), (.bool false)] [(0, 1), (1, 1), (2, 1), (3, 1), (4, 1), (5, 1)] [(0, (.const (.int .i64 5))), (3, (.const (.int .i64 (-1)))), (4, (.const (.string ⟨#[73, 116, 101, 114]⟩)))], none⟩,
 ⟨some 5, .build [(.int .i64 0), (.int .i64 0), (.int .i64 0), (.int .i64 0), (.string ⟨#[]⟩), (.bool false)] [(0, 1), (1, 1), (2, 1), (3, 1), (4, 1), (5, 1)] [(0, (.const (.int .i64 13))), (4, (.const (.string ⟨#[73, 116, 101, 109]⟩)))], none⟩,
 ⟨some 6, .build [(.int .i64 0), (.int .i64 0), (.int .i64 0), (.int .i64 0), (.string ⟨#[]⟩), (.bool false)] [(0, 1), (1, 1), (2, 1), (3, 1), (4, 1), (5, 1)] [(0, (.const (.int .i64 6))), (3, (.const (.int .i64 (-1))))], none⟩,
 ⟨some 7, .build [(.int .i64 0), (.int .i64 0), (.int .i64 0), (.int .i64 0), (.string ⟨#[]⟩), (.bool false)] [(0, 1), (1, 1), (2, 1), (3, 1), (4, 1), (5, 1)] [(0, (.const (.int .i64 13))), (3, (.const (.int .i64 2))), (4, (.const (.string ⟨#[73, 116, 101, 109]⟩)))], none⟩,
 ⟨some 8, .bslice 125 6 [(.int .i64 0), (.int .i64 0), (.int .i64 0), (.int .i64 0), (.string ⟨#[]⟩), (.bool false)] 4 [(0, (.tmp 4)), (1, (.tmp 5)), (2, (.tmp 6)), (3, (.tmp 7))], none⟩,
 ⟨some 9, .build [(.slice none 0 0), (.slice none 0 0), (.slice none 0 0)] [(0, 1), (1, 1), (2, 1)] [(0, (.tmp 8))], none⟩,
 ⟨some 2, .alloc 50 3 [(.slice none 0 0), (.slice none 0 0), (.slice none 0 0)], none⟩,
 ⟨none, .store 3 (.tmp 2) (.tmp 9), none⟩])
 (.seq
 (.reg [⟨some 10, .build [(.slice none 0 0), (.int .i64 0), (.int .i64 0), (.slice none 0 0), (.int .i64 0), (.slice none 0 0), (.slice none 0 0)] [(0, 1), (1, 3), (4, 1), (5, 1), (6, 1)] [(2, (.const (.int .i64 (-1))))], none⟩,
 ⟨some 11, .build [(.slice none 0 0), (.int .i64 0), (.int .i64 0), (.slice none 0 0), (.int .i64 0), (.slice none 0 0), (.slice none 0 0)] [(0, 1), (1, 3), (4, 1), (5, 1), (6, 1)] [(2, (.const (.int .i64 (-1))))], none⟩,
 ⟨some 12, .call (.func 82) [], none⟩,
 ⟨some 13, .build [(.slice none 0 0), (.int .i64 0), (.int .i64 0), (.slice none 0 0), (.int .i64 0), (.slice none 0 0), (.slice none 0 0)] [(0, 1), (1, 3), (4, 1), (5, 1), (6, 1)] [(1, (.tmp 12))], none⟩,
 ⟨some 14, .call (.func 81) [(.const (.int .i64 4)), (.const (.int .i64 0)), (.const (.slice none 0 0))], none⟩,
 ⟨some 15, .build [(.slice none 0 0), (.int .i64 0), (.int .i64 0), (.slice none 0 0), (.int .i64 0), (.slice none 0 0), (.slice none 0 0)] [(0, 1), (1, 3), (4, 1), (5, 1), (6, 1)] [(2, (.const (.int .i64 (-1)))), (1, (.tmp 14))], none⟩,
 ⟨some 16, .bslice 40 7 [(.slice none 0 0), (.int .i64 0), (.int .i64 0), (.slice none 0 0), (.int .i64 0), (.slice none 0 0), (.slice none 0 0)] 4 [(0, (.tmp 10)), (1, (.tmp 11)), (2, (.tmp 13)), (3, (.tmp 15))], none⟩,
 ⟨some 3, .mov (.tmp 16), none⟩])
 (.seq
 (.reg [⟨some 17, .load true 3 (.tmp 2), none⟩,
 ⟨some 18, .mov (.tmp 3), none⟩,
 ⟨none, .store 3 (.tmp 0) (.tmp 17), none⟩,
 ⟨some 1, .mov (.tmp 18), none⟩])
 (.ret))))
theorem fn93 : Fun Try.prog 93 19 ac93 [.cell 0 3 true, .tmp 1] := ⟨mixedU, Try.f93, _, Try.func93, rfl, by decide +kernel, rfl, by kernel_rfl, by kernel_rfl⟩
/- glossator/glossatorlaw2.typeParam -/
def ac94 : AC := .seq
 (.reg [⟨some 2, .alloc 26 3 [(.int .i64 0), (.int .i64 0), (.slice none 0 0)], none⟩])
 (.seq
 (.reg [⟨some 3, .mov (.tmp 0), none⟩,
 ⟨some 4, .call (.func 81) [(.const (.int .i64 2)), (.tmp 3), (.const (.slice none 0 0))], none⟩,
 ⟨none, .store 3 (.tmp 2) (.tmp 4), none⟩])
 (.ret))
theorem fn94 : Fun Try.prog 94 5 ac94 [.cell 2 3 true] := ⟨mixedU, Try.f94, _, Try.func94, rfl, by decide +kernel, rfl, by kernel_rfl, by kernel_rfl⟩
/- glossator/glossatorref2.InRange -/
def ac95 : AC := .seq
 (.reg [⟨some 6, .mov (.const (.bool false)), none⟩])
 (.seq
 (.reg [⟨some 7, .mov (.tmp 1), none⟩,
 ⟨some 8, .mov (.tmp 0), none⟩,
 ⟨some 9, .bin .leq .int (.tmp 7) (.tmp 8), none⟩,
 ⟨some 10, .mov (.tmp 9), none⟩,
 ⟨some 11, .mov (.tmp 0), some (10, true)⟩,
 ⟨some 12, .mov (.tmp 2), some (10, true)⟩,
 ⟨some 13, .bin .leq .int (.tmp 11) (.tmp 12), some (10, true)⟩,
 ⟨some 14, .pick (.tmp 10) (.tmp 13) (.const (.bool false)), none⟩,
 ⟨some 6, .mov (.tmp 14), none⟩])
 (.ret))
theorem fn95 : Fun Try.prog 95 15 ac95 [.tmp 6] := ⟨mixedU, Try.f95, _, Try.func95, rfl, by decide +kernel, rfl, by kernel_rfl, by kernel_rfl⟩
/- glossator/glossatorref2.TypeWellFormed -/
def ac96_l0 : AC := .seq
 (.reg [⟨some 59, .bin .lss .int (.tmp 58) (.tmp 57), none⟩])
 (.seq
 (.cond (.tmp 59)
 (.skip)
 (.exit 1))
 (.seq
 (.block 2
 (.seq
 (.reg [⟨some 60, .iaddr 3 (.tmp 56) (.tmp 58), none⟩,
 ⟨some 61, .load true 3 (.tmp 60), none⟩,
 ⟨some 7, .alloc 26 3 [(.int .i64 0), (.int .i64 0), (.slice none 0 0)], none⟩,
 ⟨none, .store 3 (.tmp 7) (.tmp 61), none⟩])
 (.seq
 (.reg [⟨some 62, .load true 3 (.tmp 7), none⟩,
 ⟨some 63, .call (.func 96) [(.tmp 62)], none⟩,
 ⟨some 64, .un .not (.tmp 63), none⟩])
 (.cond (.tmp 64)
 (.seq
 (.reg [⟨some 2, .mov (.const (.bool false)), none⟩])
 (.ret))
 (.skip)))))
 (.reg [⟨some 65, .bin .add .int (.tmp 58) (.const (.int .i64 1)), none⟩,
 ⟨some 58, .mov (.tmp 65), none⟩])))
def ac96 : AC := .seq
 (.reg [⟨some 1, .box 26 3 (.tmp 0), none⟩,
 ⟨some 2, .mov (.const (.bool false)), none⟩])
 (.seq
 (.reg [⟨some 3, .mov (.const (.int .i64 0)), none⟩,
 ⟨some 4, .mov (.const (.int .i64 0)), none⟩,
 ⟨some 5, .mov (.const (.int .i64 0)), none⟩])
 (.seq
 (.seq
 (.reg [⟨some 8, .faddr 0 (.tmp 1), none⟩,
 ⟨some 9, .load false 1 (.tmp 8), none⟩])
 (.block 0
 (.seq
 (.seq
 (.reg [⟨some 11, .bin .eql .int (.tmp 9) (.const (.int .i64 0)), none⟩,
 ⟨some 10, .mov (.tmp 11), none⟩])
 (.cond (.tmp 10)
 (.skip)
 (.seq
 (.reg [⟨some 12, .bin .eql .int (.tmp 9) (.const (.int .i64 3)), none⟩,
 ⟨some 10, .mov (.tmp 12), none⟩])
 (.cond (.tmp 10)
 (.skip)
 (.seq
 (.reg [⟨some 13, .bin .eql .int (.tmp 9) (.const (.int .i64 4)), none⟩,
 ⟨some 10, .mov (.tmp 13), none⟩])
 (.cond (.tmp 10)
 (.skip)
 (.seq
 (.reg [⟨some 14, .bin .eql .int (.tmp 9) (.const (.int .i64 5)), none⟩,
 ⟨some 10, .mov (.tmp 14), none⟩])
 (.cond (.tmp 10)
 (.skip)
 (.reg [⟨some 15, .bin .eql .int (.tmp 9) (.const (.int .i64 6)), none⟩,
 ⟨some 10, .mov (.tmp 15), none⟩])))))))))
 (.cond (.tmp 10)
 (.skip)
 (.seq
 (.seq
 (.reg [⟨some 17, .bin .eql .int (.tmp 9) (.const (.int .i64 1)), none⟩,
 ⟨some 16, .mov (.tmp 17), none⟩])
 (.cond (.tmp 16)
 (.skip)
 (.reg [⟨some 18, .bin .eql .int (.tmp 9) (.const (.int .i64 2)), none⟩,
 ⟨some 16, .mov (.tmp 18), none⟩])))
 (.cond (.tmp 16)
 (.reg [⟨some 5, .mov (.const (.int .i64 (-1))), none⟩])
 (.seq
 (.reg [⟨some 20, .bin .eql .int (.tmp 9) (.const (.int .i64 7)), none⟩,
 ⟨some 19, .mov (.tmp 20), none⟩])
 (.cond (.tmp 19)
 (.dreg [⟨some 21, .faddr 2 (.tmp 1), none⟩,
 ⟨some 22, .load false 1 (.tmp 21), none⟩,
 ⟨some 23, .slen false (.tmp 22), none⟩,
 ⟨some 5, .mov (.const (.int .i64 (-1))), none⟩,
 ⟨some 4, .mov (.tmp 23), none⟩]
 [[], [0], [1], [], [2, 3, 0, 1, 2, 3]]
 [[1], [21], [22], [], [23]])
 (.seq
 (.reg [⟨some 25, .bin .eql .int (.tmp 9) (.const (.int .i64 8)), none⟩,
 ⟨some 24, .mov (.tmp 25), none⟩])
 (.cond (.tmp 24)
 (.reg [⟨some 3, .mov (.const (.int .i64 1)), none⟩,
 ⟨some 4, .mov (.const (.int .i64 1)), none⟩,
 ⟨some 5, .mov (.const (.int .i64 1)), none⟩])
 (.seq
 (.reg [⟨some 27, .bin .eql .int (.tmp 9) (.const (.int .i64 9)), none⟩,
 ⟨some 26, .mov (.tmp 27), none⟩])
 (.cond (.tmp 26)
 (.dreg [⟨some 28, .faddr 2 (.tmp 1), none⟩,
 ⟨some 29, .load false 1 (.tmp 28), none⟩,
 ⟨some 30, .slen false (.tmp 29), none⟩,
 ⟨some 3, .mov (.const (.int .i64 1)), none⟩,
 ⟨some 4, .mov (.tmp 30), none⟩]
 [[], [0], [1], [], [2, 3, 0, 1, 2, 3]]
 [[1], [28], [29], [], [30]])
 (.seq
 (.reg [⟨some 32, .bin .eql .int (.tmp 9) (.const (.int .i64 10)), none⟩,
 ⟨some 31, .mov (.tmp 32), none⟩])
 (.cond (.tmp 31)
 (.reg [⟨some 3, .mov (.const (.int .i64 1)), none⟩,
 ⟨some 4, .mov (.const (.int .i64 1)), none⟩,
 ⟨some 5, .mov (.const (.int .i64 (-1))), none⟩])
 (.seq
 (.reg [⟨some 2, .mov (.const (.bool false)), none⟩])
 (.ret))))))))))))))))
 (.seq
 (.seq
 (.reg [⟨some 33, .faddr 2 (.tmp 1), none⟩,
 ⟨some 34, .load false 1 (.tmp 33), none⟩,
 ⟨some 35, .slen false (.tmp 34), none⟩,
 ⟨some 36, .mov (.tmp 3), none⟩,
 ⟨some 37, .mov (.tmp 4), none⟩,
 ⟨some 38, .call (.func 95) [(.tmp 35), (.tmp 36), (.tmp 37)], none⟩,
 ⟨some 39, .un .not (.tmp 38), none⟩,
 ⟨some 40, .mov (.tmp 39), none⟩,
 ⟨some 41, .faddr 1 (.tmp 1), some (40, false)⟩,
 ⟨some 42, .load false 1 (.tmp 41), some (40, false)⟩,
 ⟨some 43, .bin .lss .int (.tmp 42) (.const (.int .i64 0)), some (40, false)⟩,
 ⟨some 44, .pick (.tmp 40) (.const (.bool true)) (.tmp 43), none⟩,
 ⟨some 45, .mov (.tmp 44), none⟩,
 ⟨some 46, .mov (.tmp 5), some (45, false)⟩,
 ⟨some 47, .bin .geq .int (.tmp 46) (.const (.int .i64 0)), some (45, false)⟩,
 ⟨some 48, .mov (.tmp 47), some (45, false)⟩,
 ⟨some 49, .faddr 1 (.tmp 1), some (48, true)⟩,
 ⟨some 50, .load false 1 (.tmp 49), some (48, true)⟩,
 ⟨some 51, .mov (.tmp 5), some (48, true)⟩,
 ⟨some 52, .bin .gtr .int (.tmp 50) (.tmp 51), some (48, true)⟩,
 ⟨some 53, .pick (.tmp 48) (.tmp 52) (.const (.bool false)), some (45, false)⟩,
 ⟨some 54, .pick (.tmp 45) (.const (.bool true)) (.tmp 53), none⟩])
 (.cond (.tmp 54)
 (.seq
 (.reg [⟨some 2, .mov (.const (.bool false)), none⟩])
 (.ret))
 (.skip)))
 (.seq
 (.seq
 (.reg [⟨some 55, .faddr 2 (.tmp 1), none⟩,
 ⟨some 56, .load false 1 (.tmp 55), none⟩,
 ⟨some 57, .slen false (.tmp 56), none⟩,
 ⟨some 58, .mov (.const (.int .i64 0)), none⟩])
 (.block 1
 (.loop ac96_l0)))
 (.seq
 (.reg [⟨some 2, .mov (.const (.bool true)), none⟩])
 (.ret))))))
theorem fn96 : Fun Try.prog 96 66 ac96 [.tmp 2] := ⟨mixedU, Try.f96, _, Try.func96, rfl, by decide +kernel, rfl, by kernel_rfl, by kernel_rfl⟩
/- slices.ContainsFunc[[]int,int] -/
def ac104 : AC := .seq
 (.reg [⟨some 4, .mov (.const (.bool false)), none⟩])
 (.seq
 (.reg [⟨some 5, .mov (.tmp 0), none⟩,
 ⟨some 6, .mov (.tmp 1), none⟩,
 ⟨some 7, .call (.func 158) [(.tmp 5), (.tmp 6)], none⟩,
 ⟨some 8, .bin .geq .int (.tmp 7) (.const (.int .i64 0)), none⟩,
 ⟨some 4, .mov (.tmp 8), none⟩])
 (.ret))
theorem fn104 : Fun Try.prog 104 9 ac104 [.tmp 4] := ⟨mixedU, Try.f104, _, Try.func104, rfl, by decide +kernel, rfl, by kernel_rfl, by kernel_rfl⟩
/- slices.Index[[]int,int] -/
def ac119_l0 : AC := .seq
 (.reg [⟨some 9, .bin .lss .int (.tmp 8) (.tmp 7), none⟩])
 (.seq
 (.cond (.tmp 9)
 (.skip)
 (.exit 0))
 (.seq
 (.block 1
 (.seq
 (.reg [⟨some 10, .mov (.tmp 8), none⟩,
 ⟨some 5, .mov (.tmp 10), none⟩])
 (.seq
 (.reg [⟨some 11, .mov (.tmp 1), none⟩,
 ⟨some 12, .mov (.tmp 0), none⟩,
 ⟨some 13, .mov (.tmp 5), none⟩,
 ⟨some 14, .iaddr 1 (.tmp 12) (.tmp 13), none⟩,
 ⟨some 15, .load false 1 (.tmp 14), none⟩,
 ⟨some 16, .bin .eql .int (.tmp 11) (.tmp 15), none⟩])
 (.cond (.tmp 16)
 (.seq
 (.reg [⟨some 17, .mov (.tmp 5), none⟩,
 ⟨some 4, .mov (.tmp 17), none⟩])
 (.ret))
 (.skip)))))
 (.reg [⟨some 18, .bin .add .int (.tmp 8) (.const (.int .i64 1)), none⟩,
 ⟨some 8, .mov (.tmp 18), none⟩])))
def ac119 : AC := .seq
 (.reg [⟨some 4, .mov (.const (.int .i64 0)), none⟩])
 (.seq
 (.seq
 (.reg [⟨some 6, .mov (.tmp 0), none⟩,
 ⟨some 7, .slen false (.tmp 6), none⟩,
 ⟨some 8, .mov (.const (.int .i64 0)), none⟩])
 (.block 0
 (.loop ac119_l0)))
 (.seq
 (.reg [⟨some 4, .mov (.const (.int .i64 (-1))), none⟩])
 (.ret)))
theorem fn119 : Fun Try.prog 119 19 ac119 [.tmp 4] := ⟨mixedU, Try.f119, _, Try.func119, rfl, by decide +kernel, rfl, by kernel_rfl, by kernel_rfl⟩
/- glossator/types.Map -/
def ac138_l0 : AC := .seq
 (.reg [⟨some 27, .bin .lss .int (.tmp 26) (.tmp 25), none⟩])
 (.seq
 (.cond (.tmp 27)
 (.skip)
 (.exit 0))
 (.seq
 (.block 1
 (.seq
 (.reg [⟨some 28, .iaddr 3 (.tmp 24) (.tmp 26), none⟩,
 ⟨some 29, .load true 3 (.tmp 28), none⟩,
 ⟨some 9, .alloc 26 3 [(.int .i64 0), (.int .i64 0), (.slice none 0 0)], none⟩,
 ⟨none, .store 3 (.tmp 9) (.tmp 29), none⟩])
 (.dreg [⟨some 30, .faddr 2 (.tmp 7), none⟩,
 ⟨some 31, .load false 1 (.tmp 30), none⟩,
 ⟨some 32, .load true 3 (.tmp 9), none⟩,
 ⟨some 33, .mov (.tmp 1), none⟩,
 ⟨some 34, .call (.func 138) [(.tmp 32), (.tmp 33)], none⟩,
 ⟨some 35, .bslice 26 3 [(.int .i64 0), (.int .i64 0), (.slice none 0 0)] 1 [(0, (.tmp 34))], none⟩,
 ⟨some 36, .app 26 3 (.tmp 31) (.tmp 35), none⟩,
 ⟨some 37, .faddr 2 (.tmp 7), none⟩,
 ⟨none, .store 1 (.tmp 37) (.tmp 36), none⟩]
 [[], [0], [], [], [2, 3], [4], [1, 5, 4], [0, 1, 2, 3, 4, 5, 6], [7, 6, 6, 0, 1, 2, 3, 4, 5, 6]]
 [[7], [30], [9], [1], [32, 33], [34], [31, 35], [7], [37, 36]])))
 (.reg [⟨some 38, .bin .add .int (.tmp 26) (.const (.int .i64 1)), none⟩,
 ⟨some 26, .mov (.tmp 38), none⟩])))
def ac138 : AC := .seq
 (.reg [⟨some 2, .box 26 3 (.tmp 0), none⟩,
 ⟨some 4, .alloc 26 3 [(.int .i64 0), (.int .i64 0), (.slice none 0 0)], none⟩])
 (.seq
 (.seq
 (.reg [⟨some 11, .mov (.tmp 1), none⟩,
 ⟨some 12, .load true 3 (.tmp 2), none⟩,
 ⟨some 13, .call (.tmp 11) [(.tmp 12)], none⟩,
 ⟨some 10, .mov (.tmp 13), none⟩,
 ⟨some 14, .ext (.tmp 10) 0, none⟩,
 ⟨some 15, .ext (.tmp 10) 1, none⟩,
 ⟨some 5, .alloc 26 3 [(.int .i64 0), (.int .i64 0), (.slice none 0 0)], none⟩,
 ⟨none, .store 3 (.tmp 5) (.tmp 14), none⟩,
 ⟨some 6, .mov (.tmp 15), none⟩])
 (.seq
 (.reg [⟨some 16, .mov (.tmp 6), none⟩])
 (.cond (.tmp 16)
 (.seq
 (.reg [⟨some 17, .load true 3 (.tmp 5), none⟩,
 ⟨none, .store 3 (.tmp 4) (.tmp 17), none⟩])
 (.ret))
 (.skip))))
 (.seq
 (.reg [⟨some 18, .faddr 0 (.tmp 2), none⟩,
 ⟨some 19, .load false 1 (.tmp 18), none⟩,
 ⟨some 20, .faddr 1 (.tmp 2), none⟩,
 ⟨some 21, .load false 1 (.tmp 20), none⟩,
 ⟨some 22, .build [(.int .i64 0), (.int .i64 0), (.slice none 0 0)] [(0, 1), (1, 1), (2, 1)] [(0, (.tmp 19)), (1, (.tmp 21))], none⟩,
 ⟨some 7, .alloc 26 3 [(.int .i64 0), (.int .i64 0), (.slice none 0 0)], none⟩,
 ⟨none, .store 3 (.tmp 7) (.tmp 22), none⟩])
 (.seq
 (.seq
 (.reg [⟨some 23, .faddr 2 (.tmp 2), none⟩,
 ⟨some 24, .load false 1 (.tmp 23), none⟩,
 ⟨some 25, .slen false (.tmp 24), none⟩,
 ⟨some 26, .mov (.const (.int .i64 0)), none⟩])
 (.block 0
 (.loop ac138_l0)))
 (.seq
 (.reg [⟨some 39, .load true 3 (.tmp 7), none⟩,
 ⟨none, .store 3 (.tmp 4) (.tmp 39), none⟩])
 (.ret)))))
theorem fn138 : Fun Try.prog 138 40 ac138 [.cell 4 3 true] := ⟨mixedU, Try.f138, _, Try.func138, rfl, by decide +kernel, rfl, by kernel_rfl, by kernel_rfl⟩
/- glossator/types.Clone -/
def ac142 : AC := .seq
 (.reg [⟨some 1, .box 26 3 (.tmp 0), none⟩,
 ⟨some 2, .alloc 26 3 [(.int .i64 0), (.int .i64 0), (.slice none 0 0)], none⟩])
 (.seq
 (.reg [⟨some 3, .load true 3 (.tmp 1), none⟩,
 ⟨some 4, .call (.func 138) [(.tmp 3), (.func 178)], none⟩,
 ⟨none, .store 3 (.tmp 2) (.tmp 4), none⟩])
 (.ret))
theorem fn142 : Fun Try.prog 142 5 ac142 [.cell 2 3 true] := ⟨mixedU, Try.f142, _, Try.func142, rfl, by decide +kernel, rfl, by kernel_rfl, by kernel_rfl⟩
/- slices.IndexFunc[[]glossator/api.TraitBound,glossator/api.TraitBound] -/
def ac144_l0 : AC := .seq
 (.reg [⟨some 9, .bin .lss .int (.tmp 8) (.tmp 7), none⟩])
 (.seq
 (.cond (.tmp 9)
 (.skip)
 (.exit 0))
 (.seq
 (.block 1
 (.seq
 (.reg [⟨some 10, .mov (.tmp 8), none⟩,
 ⟨some 5, .mov (.tmp 10), none⟩])
 (.seq
 (.reg [⟨some 11, .mov (.tmp 1), none⟩,
 ⟨some 12, .mov (.tmp 0), none⟩,
 ⟨some 13, .mov (.tmp 5), none⟩,
 ⟨some 14, .iaddr 4 (.tmp 12) (.tmp 13), none⟩,
 ⟨some 15, .load true 4 (.tmp 14), none⟩,
 ⟨some 16, .call (.tmp 11) [(.tmp 15)], none⟩])
 (.cond (.tmp 16)
 (.seq
 (.reg [⟨some 17, .mov (.tmp 5), none⟩,
 ⟨some 4, .mov (.tmp 17), none⟩])
 (.ret))
 (.skip)))))
 (.reg [⟨some 18, .bin .add .int (.tmp 8) (.const (.int .i64 1)), none⟩,
 ⟨some 8, .mov (.tmp 18), none⟩])))
def ac144 : AC := .seq
 (.reg [⟨some 4, .mov (.const (.int .i64 0)), none⟩])
 (.seq
 (.seq
 (.reg [⟨some 6, .mov (.tmp 0), none⟩,
 ⟨some 7, .slen false (.tmp 6), none⟩,
 ⟨some 8, .mov (.const (.int .i64 0)), none⟩])
 (.block 0
 (.loop ac144_l0)))
 (.seq
 (.reg [⟨some 4, .mov (.const (.int .i64 (-1))), none⟩])
 (.ret)))
theorem fn144 : Fun Try.prog 144 19 ac144 [.tmp 4] := ⟨mixedU, Try.f144, _, Try.func144, rfl, by decide +kernel, rfl, by kernel_rfl, by kernel_rfl⟩
/- (glossator/traits.solver).solve$1 -/
def ac145 : AC := .seq
 (.reg [⟨some 3, .box 43 4 (.tmp 0), none⟩,
 ⟨some 4, .mov (.const (.bool false)), none⟩])
 (.seq
 (.reg [⟨some 5, .faddr 3 (.tmp 3), none⟩,
 ⟨some 6, .load false 1 (.tmp 5), none⟩,
 ⟨some 7, .load false 1 (.tmp 1), none⟩,
 ⟨some 8, .bin .eql .int (.tmp 6) (.tmp 7), none⟩,
 ⟨some 9, .mov (.tmp 8), none⟩,
 ⟨some 10, .faddr 0 (.tmp 3), some (9, true)⟩,
 ⟨some 11, .load true 3 (.tmp 10), some (9, true)⟩,
 ⟨some 12, .load true 3 (.tmp 2), some (9, true)⟩,
 ⟨some 13, .call (.func 24) [(.tmp 11), (.tmp 12)], some (9, true)⟩,
 ⟨some 14, .pick (.tmp 9) (.tmp 13) (.const (.bool false)), none⟩,
 ⟨some 4, .mov (.tmp 14), none⟩])
 (.ret))
theorem fn145 : Fun Try.prog 145 15 ac145 [.tmp 4] := ⟨mixedU, Try.f145, _, Try.func145, rfl, by decide +kernel, rfl, by kernel_rfl, by kernel_rfl⟩
/- (glossator/traits.solver).matchingImpl -/
def ac146_l0 : AC := .seq
 (.reg [⟨some 16, .bin .lss .int (.tmp 15) (.tmp 14), none⟩])
 (.seq
 (.cond (.tmp 16)
 (.skip)
 (.exit 0))
 (.seq
 (.block 1
 (.seq
 (.reg [⟨some 17, .mov (.tmp 15), none⟩,
 ⟨some 18, .iaddr 7 (.tmp 13) (.tmp 15), none⟩,
 ⟨some 19, .load true 7 (.tmp 18), none⟩,
 ⟨some 9, .alloc 40 7 [(.slice none 0 0), (.int .i64 0), (.int .i64 0), (.slice none 0 0), (.int .i64 0), (.slice none 0 0), (.slice none 0 0)], none⟩,
 ⟨some 8, .mov (.tmp 17), none⟩,
 ⟨none, .store 7 (.tmp 9) (.tmp 19), none⟩])
 (.seq
 (.seq
 (.reg [⟨some 20, .faddr 4 (.tmp 9), none⟩,
 ⟨some 21, .load false 1 (.tmp 20), none⟩,
 ⟨some 22, .mov (.tmp 2), none⟩,
 ⟨some 23, .bin .neq .int (.tmp 21) (.tmp 22), none⟩,
 ⟨some 24, .mov (.tmp 23), none⟩,
 ⟨some 25, .faddr 0 (.tmp 9), some (24, false)⟩,
 ⟨some 26, .load false 1 (.tmp 25), some (24, false)⟩,
 ⟨some 27, .mkfn 179 [(.tmp 9)], some (24, false)⟩,
 ⟨some 28, .call (.func 104) [(.tmp 26), (.tmp 27)], some (24, false)⟩,
 ⟨some 29, .pick (.tmp 24) (.const (.bool true)) (.tmp 28), none⟩])
 (.cond (.tmp 29)
 (.exit 1)
 (.skip)))
 (.seq
 (.reg [⟨some 31, .load true 3 (.tmp 4), none⟩,
 ⟨some 32, .faddr 1 (.tmp 9), none⟩,
 ⟨some 33, .load true 3 (.tmp 32), none⟩,
 ⟨some 34, .faddr 0 (.tmp 9), none⟩,
 ⟨some 35, .load false 1 (.tmp 34), none⟩,
 ⟨some 36, .call (.func 181) [(.tmp 31), (.tmp 33), (.tmp 35)], none⟩,
 ⟨some 30, .mov (.tmp 36), none⟩,
 ⟨some 37, .ext (.tmp 30) 0, none⟩,
 ⟨some 38, .ext (.tmp 30) 1, none⟩,
 ⟨some 10, .mov (.tmp 37), none⟩,
 ⟨some 11, .mov (.tmp 38), none⟩])
 (.seq
 (.reg [⟨some 39, .mov (.tmp 11), none⟩])
 (.cond (.tmp 39)
 (.seq
 (.reg [⟨some 40, .mov (.tmp 8), none⟩,
 ⟨some 41, .mov (.tmp 10), none⟩,
 ⟨some 6, .mov (.tmp 40), none⟩,
 ⟨some 7, .mov (.tmp 41), none⟩])
 (.ret))
 (.skip)))))))
 (.reg [⟨some 42, .bin .add .int (.tmp 15) (.const (.int .i64 1)), none⟩,
 ⟨some 15, .mov (.tmp 42), none⟩])))
def ac146 : AC := .seq
 (.reg [⟨some 3, .box 107 2 (.tmp 0), none⟩,
 ⟨some 4, .box 26 3 (.tmp 1), none⟩,
 ⟨some 6, .mov (.const (.int .i64 0)), none⟩,
 ⟨some 7, .mov (.const (.slice none 0 0)), none⟩])
 (.seq
 (.seq
 (.reg [⟨some 12, .faddr 0 (.tmp 3), none⟩,
 ⟨some 13, .load false 1 (.tmp 12), none⟩,
 ⟨some 14, .slen false (.tmp 13), none⟩,
 ⟨some 15, .mov (.const (.int .i64 0)), none⟩])
 (.block 0
 (.loop ac146_l0)))
 (.seq
 (.reg [⟨some 6, .mov (.const (.int .i64 (-1))), none⟩,
 ⟨some 7, .mov (.const (.slice none 0 0)), none⟩])
 (.ret)))
theorem fn146 : Fun Try.prog 146 43 ac146 [.tmp 6, .tmp 7] := ⟨mixedU, Try.f146, _, Try.func146, rfl, by decide +kernel, rfl, by kernel_rfl, by kernel_rfl⟩
/- glossator/scheme.Apply$1 -/
def ac147 : AC := .seq
 (.reg [⟨some 3, .box 26 3 (.tmp 0), none⟩,
 ⟨some 4, .alloc 26 3 [(.int .i64 0), (.int .i64 0), (.slice none 0 0)], none⟩,
 ⟨some 5, .mov (.const (.bool false)), none⟩])
 (.seq
 (.reg [⟨some 7, .load false 1 (.tmp 1), none⟩,
 ⟨some 8, .faddr 1 (.tmp 3), none⟩,
 ⟨some 9, .load false 1 (.tmp 8), none⟩,
 ⟨some 10, .call (.func 119) [(.tmp 7), (.tmp 9)], none⟩,
 ⟨some 6, .mov (.tmp 10), none⟩])
 (.seq
 (.seq
 (.reg [⟨some 11, .faddr 0 (.tmp 3), none⟩,
 ⟨some 12, .load false 1 (.tmp 11), none⟩,
 ⟨some 13, .bin .neq .int (.tmp 12) (.const (.int .i64 2)), none⟩,
 ⟨some 14, .mov (.tmp 13), none⟩,
 ⟨some 15, .mov (.tmp 6), some (14, false)⟩,
 ⟨some 16, .bin .lss .int (.tmp 15) (.const (.int .i64 0)), some (14, false)⟩,
 ⟨some 17, .pick (.tmp 14) (.const (.bool true)) (.tmp 16), none⟩,
 ⟨some 18, .mov (.tmp 17), none⟩,
 ⟨some 19, .mov (.tmp 6), some (18, false)⟩,
 ⟨some 20, .load false 1 (.tmp 2), some (18, false)⟩,
 ⟨some 21, .slen false (.tmp 20), some (18, false)⟩,
 ⟨some 22, .bin .geq .int (.tmp 19) (.tmp 21), some (18, false)⟩,
 ⟨some 23, .pick (.tmp 18) (.const (.bool true)) (.tmp 22), none⟩])
 (.cond (.tmp 23)
 (.seq
 (.reg [⟨some 24, .load true 3 (.tmp 3), none⟩,
 ⟨none, .store 3 (.tmp 4) (.tmp 24), none⟩,
 ⟨some 5, .mov (.const (.bool false)), none⟩])
 (.ret))
 (.skip)))
 (.seq
 (.reg [⟨some 25, .load false 1 (.tmp 2), none⟩,
 ⟨some 26, .mov (.tmp 6), none⟩,
 ⟨some 27, .iaddr 3 (.tmp 25) (.tmp 26), none⟩,
 ⟨some 28, .load true 3 (.tmp 27), none⟩,
 ⟨some 29, .call (.func 142) [(.tmp 28)], none⟩,
 ⟨none, .store 3 (.tmp 4) (.tmp 29), none⟩,
 ⟨some 5, .mov (.const (.bool true)), none⟩])
 (.ret))))
theorem fn147 : Fun Try.prog 147 30 ac147 [.cell 4 3 true, .tmp 5] := ⟨mixedU, Try.f147, _, Try.func147, rfl, by decide +kernel, rfl, by kernel_rfl, by kernel_rfl⟩
/- glossator/glossatorref2.occurrences -/
def ac148_l0 : AC := .seq
 (.reg [⟨some 50, .bin .lss .int (.tmp 49) (.tmp 48), none⟩])
 (.seq
 (.cond (.tmp 50)
 (.skip)
 (.exit 0))
 (.seq
 (.block 1
 (.seq
 (.reg [⟨some 51, .mov (.tmp 49), none⟩,
 ⟨some 12, .mov (.tmp 51), none⟩])
 (.seq
 (.dreg [⟨some 53, .faddr 2 (.tmp 3), none⟩,
 ⟨some 54, .load false 1 (.tmp 53), none⟩,
 ⟨some 55, .mov (.tmp 12), none⟩,
 ⟨some 56, .iaddr 3 (.tmp 54) (.tmp 55), none⟩,
 ⟨some 57, .load true 3 (.tmp 56), none⟩,
 ⟨some 58, .faddr 2 (.tmp 4), none⟩,
 ⟨some 59, .load false 1 (.tmp 58), none⟩,
 ⟨some 60, .mov (.tmp 12), none⟩,
 ⟨some 61, .iaddr 3 (.tmp 59) (.tmp 60), none⟩,
 ⟨some 62, .load true 3 (.tmp 61), none⟩,
 ⟨some 63, .mov (.tmp 2), none⟩,
 ⟨some 64, .call (.func 148) [(.tmp 57), (.tmp 62), (.tmp 63)], none⟩,
 ⟨some 52, .mov (.tmp 64), none⟩,
 ⟨some 65, .ext (.tmp 52) 0, none⟩,
 ⟨some 66, .ext (.tmp 52) 1, none⟩,
 ⟨some 67, .ext (.tmp 52) 2, none⟩,
 ⟨some 13, .mov (.tmp 65), none⟩,
 ⟨some 14, .mov (.tmp 66), none⟩,
 ⟨some 15, .mov (.tmp 67), none⟩]
 [[], [0], [], [1, 2], [3], [], [5], [], [6, 7], [8], [], [4, 9, 10], [11], [12], [12], [12], [13, 11, 0, 1, 2, 3, 4, 5, 6, 7, 8, 9, 10, 11, 12, 13], [14, 16, 0, 1, 2, 3, 4, 5, 6, 7, 8, 9, 10, 11, 12, 13, 14, 16], [15, 17, 0, 1, 2, 3, 4, 5, 6, 7, 8, 9, 10, 11, 12, 13, 14, 15, 16, 17]]
 [[3], [53], [12], [54, 55], [56], [4], [58], [12], [59, 60], [61], [2], [57, 62, 63], [64], [52], [52], [52], [65], [66], [67]])
 (.seq
 (.seq
 (.reg [⟨some 68, .mov (.tmp 15), none⟩,
 ⟨some 69, .un .not (.tmp 68), none⟩])
 (.cond (.tmp 69)
 (.seq
 (.reg [⟨some 6, .mov (.const (.slice none 0 0)), none⟩,
 ⟨some 7, .mov (.const (.slice none 0 0)), none⟩,
 ⟨some 8, .mov (.const (.bool false)), none⟩])
 (.ret))
 (.skip)))
 (.reg [⟨some 70, .mov (.tmp 10), none⟩,
 ⟨some 71, .mov (.tmp 13), none⟩,
 ⟨some 72, .app 3 1 (.tmp 70) (.tmp 71), none⟩,
 ⟨some 73, .mov (.tmp 11), none⟩,
 ⟨some 74, .mov (.tmp 14), none⟩,
 ⟨some 75, .app 26 3 (.tmp 73) (.tmp 74), none⟩,
 ⟨some 10, .mov (.tmp 72), none⟩,
 ⟨some 11, .mov (.tmp 75), none⟩])))))
 (.reg [⟨some 76, .bin .add .int (.tmp 49) (.const (.int .i64 1)), none⟩,
 ⟨some 49, .mov (.tmp 76), none⟩])))
def ac148 : AC := .seq
 (.reg [⟨some 3, .box 26 3 (.tmp 0), none⟩,
 ⟨some 4, .box 26 3 (.tmp 1), none⟩,
 ⟨some 6, .mov (.const (.slice none 0 0)), none⟩,
 ⟨some 7, .mov (.const (.slice none 0 0)), none⟩,
 ⟨some 8, .mov (.const (.bool false)), none⟩])
 (.seq
 (.seq
 (.reg [⟨some 16, .load true 3 (.tmp 4), none⟩,
 ⟨some 17, .mov (.tmp 2), none⟩,
 ⟨some 18, .call (.func 149) [(.tmp 16), (.tmp 17)], none⟩,
 ⟨some 9, .mov (.tmp 18), none⟩])
 (.seq
 (.reg [⟨some 19, .mov (.tmp 9), none⟩,
 ⟨some 20, .bin .geq .int (.tmp 19) (.const (.int .i64 0)), none⟩])
 (.cond (.tmp 20)
 (.seq
 (.dreg [⟨some 21, .mov (.tmp 9), none⟩,
 ⟨some 22, .bslice 3 1 [(.int .i64 0)] 1 [(0, (.tmp 21))], none⟩,
 ⟨some 23, .load true 3 (.tmp 3), none⟩,
 ⟨some 24, .bslice 26 3 [(.int .i64 0), (.int .i64 0), (.slice none 0 0)] 1 [(0, (.tmp 23))], none⟩,
 ⟨some 6, .mov (.tmp 22), none⟩,
 ⟨some 7, .mov (.tmp 24), none⟩,
 ⟨some 8, .mov (.const (.bool true)), none⟩]
 [[], [0], [], [2], [1, 0, 1], [3, 4, 0, 1, 2, 3, 4], [5, 0, 1, 2, 3, 4, 5]]
 [[9], [21], [3], [23], [22], [24], []])
 (.ret))
 (.skip))))
 (.seq
 (.seq
 (.reg [⟨some 25, .faddr 0 (.tmp 3), none⟩,
 ⟨some 26, .load false 1 (.tmp 25), none⟩,
 ⟨some 27, .faddr 0 (.tmp 4), none⟩,
 ⟨some 28, .load false 1 (.tmp 27), none⟩,
 ⟨some 29, .bin .neq .int (.tmp 26) (.tmp 28), none⟩,
 ⟨some 30, .mov (.tmp 29), none⟩,
 ⟨some 31, .faddr 1 (.tmp 3), some (30, false)⟩,
 ⟨some 32, .load false 1 (.tmp 31), some (30, false)⟩,
 ⟨some 33, .faddr 1 (.tmp 4), some (30, false)⟩,
 ⟨some 34, .load false 1 (.tmp 33), some (30, false)⟩,
 ⟨some 35, .bin .neq .int (.tmp 32) (.tmp 34), some (30, false)⟩,
 ⟨some 36, .pick (.tmp 30) (.const (.bool true)) (.tmp 35), none⟩,
 ⟨some 37, .mov (.tmp 36), none⟩,
 ⟨some 38, .faddr 2 (.tmp 3), some (37, false)⟩,
 ⟨some 39, .load false 1 (.tmp 38), some (37, false)⟩,
 ⟨some 40, .slen false (.tmp 39), some (37, false)⟩,
 ⟨some 41, .faddr 2 (.tmp 4), some (37, false)⟩,
 ⟨some 42, .load false 1 (.tmp 41), some (37, false)⟩,
 ⟨some 43, .slen false (.tmp 42), some (37, false)⟩,
 ⟨some 44, .bin .neq .int (.tmp 40) (.tmp 43), some (37, false)⟩,
 ⟨some 45, .pick (.tmp 37) (.const (.bool true)) (.tmp 44), none⟩])
 (.cond (.tmp 45)
 (.seq
 (.reg [⟨some 6, .mov (.const (.slice none 0 0)), none⟩,
 ⟨some 7, .mov (.const (.slice none 0 0)), none⟩,
 ⟨some 8, .mov (.const (.bool false)), none⟩])
 (.ret))
 (.skip)))
 (.seq
 (.reg [⟨some 10, .mov (.const (.slice none 0 0)), none⟩])
 (.seq
 (.reg [⟨some 11, .mov (.const (.slice none 0 0)), none⟩])
 (.seq
 (.seq
 (.reg [⟨some 46, .faddr 2 (.tmp 3), none⟩,
 ⟨some 47, .load false 1 (.tmp 46), none⟩,
 ⟨some 48, .slen false (.tmp 47), none⟩,
 ⟨some 49, .mov (.const (.int .i64 0)), none⟩])
 (.block 0
 (.loop ac148_l0)))
 (.seq
 (.reg [⟨some 77, .mov (.tmp 10), none⟩,
 ⟨some 78, .mov (.tmp 11), none⟩,
 ⟨some 6, .mov (.tmp 77), none⟩,
 ⟨some 7, .mov (.tmp 78), none⟩,
 ⟨some 8, .mov (.const (.bool true)), none⟩])
 (.ret)))))))
theorem fn148 : Fun Try.prog 148 79 ac148 [.tmp 6, .tmp 7, .tmp 8] := ⟨mixedU, Try.f148, _, Try.func148, rfl, by decide +kernel, rfl, by kernel_rfl, by kernel_rfl⟩
/- glossator/glossatorref2.paramIndex -/
def ac149_l0 : AC := .seq
 (.reg [⟨some 13, .bin .lss .int (.tmp 12) (.tmp 11), none⟩])
 (.seq
 (.cond (.tmp 13)
 (.skip)
 (.exit 0))
 (.seq
 (.block 1
 (.seq
 (.reg [⟨some 14, .mov (.tmp 12), none⟩,
 ⟨some 15, .iaddr 1 (.tmp 10) (.tmp 12), none⟩,
 ⟨some 16, .load false 1 (.tmp 15), none⟩,
 ⟨some 5, .mov (.tmp 14), none⟩,
 ⟨some 6, .mov (.tmp 16), none⟩])
 (.seq
 (.reg [⟨some 17, .mov (.tmp 6), none⟩,
 ⟨some 18, .faddr 1 (.tmp 2), none⟩,
 ⟨some 19, .load false 1 (.tmp 18), none⟩,
 ⟨some 20, .bin .eql .int (.tmp 17) (.tmp 19), none⟩])
 (.cond (.tmp 20)
 (.seq
 (.reg [⟨some 21, .mov (.tmp 5), none⟩,
 ⟨some 4, .mov (.tmp 21), none⟩])
 (.ret))
 (.skip)))))
 (.reg [⟨some 22, .bin .add .int (.tmp 12) (.const (.int .i64 1)), none⟩,
 ⟨some 12, .mov (.tmp 22), none⟩])))
def ac149 : AC := .seq
 (.reg [⟨some 2, .box 26 3 (.tmp 0), none⟩,
 ⟨some 4, .mov (.const (.int .i64 0)), none⟩])
 (.seq
 (.seq
 (.reg [⟨some 7, .faddr 0 (.tmp 2), none⟩,
 ⟨some 8, .load false 1 (.tmp 7), none⟩,
 ⟨some 9, .bin .eql .int (.tmp 8) (.const (.int .i64 2)), none⟩])
 (.cond (.tmp 9)
 (.seq
 (.reg [⟨some 10, .mov (.tmp 1), none⟩,
 ⟨some 11, .slen false (.tmp 10), none⟩,
 ⟨some 12, .mov (.const (.int .i64 0)), none⟩])
 (.block 0
 (.loop ac149_l0)))
 (.skip)))
 (.seq
 (.reg [⟨some 4, .mov (.const (.int .i64 (-1))), none⟩])
 (.ret)))
theorem fn149 : Fun Try.prog 149 23 ac149 [.tmp 4] := ⟨mixedU, Try.f149, _, Try.func149, rfl, by decide +kernel, rfl, by kernel_rfl, by kernel_rfl⟩
/- (*glossator/assoctypes.normalizer).projection -/
def ac150 : AC := .seq
 (.reg [⟨some 3, .box 117 1 (.tmp 0), none⟩,
 ⟨some 4, .box 26 3 (.tmp 1), none⟩,
 ⟨some 6, .alloc 26 3 [(.int .i64 0), (.int .i64 0), (.slice none 0 0)], none⟩])
 (.seq
 (.reg [⟨some 11, .load false 1 (.tmp 3), none⟩,
 ⟨some 12, .faddr 1 (.tmp 4), none⟩,
 ⟨some 13, .load false 1 (.tmp 12), none⟩,
 ⟨some 14, .call (.func 182) [(.tmp 11), (.tmp 13)], none⟩,
 ⟨some 7, .mov (.tmp 14), none⟩])
 (.seq
 (.seq
 (.reg [⟨some 15, .mov (.tmp 7), none⟩,
 ⟨some 16, .bin .lss .int (.tmp 15) (.const (.int .i64 0)), none⟩,
 ⟨some 17, .mov (.tmp 16), none⟩,
 ⟨some 18, .faddr 2 (.tmp 4), some (17, false)⟩,
 ⟨some 19, .load false 1 (.tmp 18), some (17, false)⟩,
 ⟨some 20, .slen false (.tmp 19), some (17, false)⟩,
 ⟨some 21, .bin .neq .int (.tmp 20) (.const (.int .i64 1)), some (17, false)⟩,
 ⟨some 22, .pick (.tmp 17) (.const (.bool true)) (.tmp 21), none⟩])
 (.cond (.tmp 22)
 (.seq
 (.reg [⟨some 23, .load false 1 (.tmp 3), none⟩,
 ⟨some 24, .nilc (.tmp 23), none⟩,
 ⟨some 25, .faddr 5 (.tmp 24), none⟩,
 ⟨none, .store 1 (.tmp 25) (.const (.bool true)), none⟩])
 (.seq
 (.reg [⟨some 26, .build [(.int .i64 0), (.int .i64 0), (.slice none 0 0)] [(0, 1), (1, 1), (2, 1)] [], none⟩,
 ⟨none, .store 3 (.tmp 6) (.tmp 26), none⟩])
 (.ret)))
 (.skip)))
 (.seq
 (.dreg [⟨some 28, .load false 1 (.tmp 3), none⟩,
 ⟨some 29, .nilc (.tmp 28), none⟩,
 ⟨some 30, .faddr 3 (.tmp 29), none⟩,
 ⟨some 31, .load false 1 (.tmp 30), none⟩,
 ⟨some 32, .load false 1 (.tmp 3), none⟩,
 ⟨some 33, .nilc (.tmp 32), none⟩,
 ⟨some 34, .faddr 4 (.tmp 33), none⟩,
 ⟨some 35, .load false 1 (.tmp 34), none⟩,
 ⟨some 36, .faddr 2 (.tmp 4), none⟩,
 ⟨some 37, .load false 1 (.tmp 36), none⟩,
 ⟨some 38, .iaddr 3 (.tmp 37) (.const (.int .i64 0)), none⟩,
 ⟨some 39, .load true 3 (.tmp 38), none⟩,
 ⟨some 40, .mov (.tmp 7), none⟩,
 ⟨some 41, .call (.func 22) [(.tmp 31), (.tmp 35), (.tmp 39), (.tmp 40)], none⟩,
 ⟨some 27, .mov (.tmp 41), none⟩,
 ⟨some 42, .ext (.tmp 27) 0, none⟩,
 ⟨some 43, .ext (.tmp 27) 1, none⟩,
 ⟨some 8, .alloc 30 8 [(.int .i64 0), (.int .i64 0), (.slice none 0 0), (.int .i64 0), (.int .i64 0), (.int .i64 0), (.slice none 0 0), (.slice none 0 0)], none⟩,
 ⟨none, .store 8 (.tmp 8) (.tmp 42), none⟩,
 ⟨some 9, .mov (.tmp 43), none⟩]
 [[], [0], [1], [2], [], [4], [5], [6], [], [8], [9], [10], [], [3, 7, 11, 12], [13], [14], [14], [], [17, 15, 13, 0, 1, 2, 3, 4, 5, 6, 7, 8, 9, 10, 11, 12, 13, 14, 15, 17], [16, 18, 0, 1, 2, 3, 4, 5, 6, 7, 8, 9, 10, 11, 12, 13, 14, 15, 16, 17, 18]]
 [[3], [28], [29], [30], [3], [32], [33], [34], [4], [36], [37], [38], [7], [31, 35, 39, 40], [41], [27], [27], [], [8, 42], [43]])
 (.seq
 (.seq
 (.reg [⟨some 44, .mov (.tmp 9), none⟩,
 ⟨some 45, .un .not (.tmp 44), none⟩,
 ⟨some 46, .mov (.tmp 45), none⟩,
 ⟨some 47, .faddr 4 (.tmp 8), some (46, false)⟩,
 ⟨some 48, .load false 1 (.tmp 47), some (46, false)⟩,
 ⟨some 49, .bin .lss .int (.tmp 48) (.const (.int .i64 0)), some (46, false)⟩,
 ⟨some 50, .pick (.tmp 46) (.const (.bool true)) (.tmp 49), none⟩])
 (.cond (.tmp 50)
 (.seq
 (.reg [⟨some 51, .load true 3 (.tmp 4), none⟩,
 ⟨none, .store 3 (.tmp 6) (.tmp 51), none⟩])
 (.ret))
 (.skip)))
 (.seq
 (.reg [⟨some 52, .load false 1 (.tmp 3), none⟩,
 ⟨some 53, .nilc (.tmp 52), none⟩,
 ⟨some 54, .faddr 0 (.tmp 53), none⟩,
 ⟨some 55, .faddr 0 (.tmp 54), none⟩,
 ⟨some 56, .load false 1 (.tmp 55), none⟩,
 ⟨some 57, .mkfn 184 [(.tmp 8), (.tmp 3), (.tmp 4)], none⟩,
 ⟨some 58, .call (.func 183) [(.tmp 56), (.tmp 57)], none⟩,
 ⟨some 10, .mov (.tmp 58), none⟩])
 (.seq
 (.seq
 (.reg [⟨some 59, .mov (.tmp 10), none⟩,
 ⟨some 60, .bin .lss .int (.tmp 59) (.const (.int .i64 0)), none⟩,
 ⟨some 61, .mov (.tmp 60), none⟩,
 ⟨some 62, .mov (.tmp 2), some (61, false)⟩,
 ⟨some 63, .bin .eql .int (.tmp 62) (.const (.int .i64 0)), some (61, false)⟩,
 ⟨some 64, .pick (.tmp 61) (.const (.bool true)) (.tmp 63), none⟩])
 (.cond (.tmp 64)
 (.seq
 (.reg [⟨some 65, .build [(.int .i64 0), (.int .i64 0), (.slice none 0 0)] [(0, 1), (1, 1), (2, 1)] [], none⟩,
 ⟨none, .store 3 (.tmp 6) (.tmp 65), none⟩])
 (.ret))
 (.skip)))
 (.seq
 (.dreg [⟨some 66, .load false 1 (.tmp 3), none⟩,
 ⟨some 67, .load false 1 (.tmp 3), none⟩,
 ⟨some 68, .nilc (.tmp 67), none⟩,
 ⟨some 69, .faddr 3 (.tmp 68), none⟩,
 ⟨some 70, .load false 1 (.tmp 69), none⟩,
 ⟨some 71, .mov (.tmp 10), none⟩,
 ⟨some 72, .iaddr 7 (.tmp 70) (.tmp 71), none⟩,
 ⟨some 73, .faddr 1 (.tmp 72), none⟩,
 ⟨some 74, .load true 3 (.tmp 73), none⟩,
 ⟨some 75, .load false 1 (.tmp 3), none⟩,
 ⟨some 76, .nilc (.tmp 75), none⟩,
 ⟨some 77, .faddr 3 (.tmp 76), none⟩,
 ⟨some 78, .load false 1 (.tmp 77), none⟩,
 ⟨some 79, .faddr 4 (.tmp 8), none⟩,
 ⟨some 80, .load false 1 (.tmp 79), none⟩,
 ⟨some 81, .iaddr 7 (.tmp 78) (.tmp 80), none⟩,
 ⟨some 82, .faddr 0 (.tmp 81), none⟩,
 ⟨some 83, .load false 1 (.tmp 82), none⟩,
 ⟨some 84, .faddr 6 (.tmp 8), none⟩,
 ⟨some 85, .load false 1 (.tmp 84), none⟩,
 ⟨some 86, .call (.func 80) [(.tmp 74), (.tmp 83), (.tmp 85)], none⟩,
 ⟨some 87, .mov (.tmp 2), none⟩,
 ⟨some 88, .bin .sub .int (.tmp 87) (.const (.int .i64 1)), none⟩,
 ⟨some 89, .call (.func 89) [(.tmp 66), (.tmp 86), (.tmp 88)], none⟩,
 ⟨none, .store 3 (.tmp 6) (.tmp 89), none⟩]
 [[], [], [1], [2], [3], [], [4, 5], [6], [7], [], [9], [10], [11], [], [13], [12, 14], [15], [16], [], [18], [8, 17, 19], [], [21], [0, 20, 22, 20], [23, 23, 0, 1, 2, 3, 4, 5, 6, 7, 8, 9, 10, 11, 12, 13, 14, 15, 16, 17, 18, 19, 20, 21, 22, 23]]
 [[3], [3], [67], [68], [69], [10], [70, 71], [72], [73], [3], [75], [76], [77], [8], [79], [78, 80], [81], [82], [8], [84], [74, 83, 85], [2], [87], [66, 86, 88], [6, 89]])
 (.ret))))))))
theorem fn150 : Fun Try.prog 150 90 ac150 [.cell 6 3 true] := ⟨mixedU, Try.f150, _, Try.func150, rfl, by decide +kernel, rfl, by kernel_rfl, by kernel_rfl⟩
/- slices.IndexFunc[[]glossator/api.Type,glossator/api.Type] -/
def ac151_l0 : AC := .seq
 (.reg [⟨some 9, .bin .lss .int (.tmp 8) (.tmp 7), none⟩])
 (.seq
 (.cond (.tmp 9)
 (.skip)
 (.exit 0))
 (.seq
 (.block 1
 (.seq
 (.reg [⟨some 10, .mov (.tmp 8), none⟩,
 ⟨some 5, .mov (.tmp 10), none⟩])
 (.seq
 (.reg [⟨some 11, .mov (.tmp 1), none⟩,
 ⟨some 12, .mov (.tmp 0), none⟩,
 ⟨some 13, .mov (.tmp 5), none⟩,
 ⟨some 14, .iaddr 3 (.tmp 12) (.tmp 13), none⟩,
 ⟨some 15, .load true 3 (.tmp 14), none⟩,
 ⟨some 16, .call (.tmp 11) [(.tmp 15)], none⟩])
 (.cond (.tmp 16)
 (.seq
 (.reg [⟨some 17, .mov (.tmp 5), none⟩,
 ⟨some 4, .mov (.tmp 17), none⟩])
 (.ret))
 (.skip)))))
 (.reg [⟨some 18, .bin .add .int (.tmp 8) (.const (.int .i64 1)), none⟩,
 ⟨some 8, .mov (.tmp 18), none⟩])))
def ac151 : AC := .seq
 (.reg [⟨some 4, .mov (.const (.int .i64 0)), none⟩])
 (.seq
 (.seq
 (.reg [⟨some 6, .mov (.tmp 0), none⟩,
 ⟨some 7, .slen false (.tmp 6), none⟩,
 ⟨some 8, .mov (.const (.int .i64 0)), none⟩])
 (.block 0
 (.loop ac151_l0)))
 (.seq
 (.reg [⟨some 4, .mov (.const (.int .i64 (-1))), none⟩])
 (.ret)))
theorem fn151 : Fun Try.prog 151 19 ac151 [.tmp 4] := ⟨mixedU, Try.f151, _, Try.func151, rfl, by decide +kernel, rfl, by kernel_rfl, by kernel_rfl⟩
/- glossator/types.nodeWellFormed -/
def ac152 : AC := .seq
 (.reg [⟨some 1, .box 26 3 (.tmp 0), none⟩,
 ⟨some 2, .mov (.const (.bool false)), none⟩])
 (.seq
 (.reg [⟨some 4, .faddr 2 (.tmp 1), none⟩,
 ⟨some 5, .load false 1 (.tmp 4), none⟩,
 ⟨some 6, .slen false (.tmp 5), none⟩,
 ⟨some 3, .mov (.tmp 6), none⟩])
 (.seq
 (.seq
 (.reg [⟨some 7, .faddr 0 (.tmp 1), none⟩,
 ⟨some 8, .load false 1 (.tmp 7), none⟩])
 (.block 0
 (.seq
 (.seq
 (.reg [⟨some 10, .bin .eql .int (.tmp 8) (.const (.int .i64 0)), none⟩,
 ⟨some 9, .mov (.tmp 10), none⟩])
 (.cond (.tmp 9)
 (.skip)
 (.seq
 (.reg [⟨some 11, .bin .eql .int (.tmp 8) (.const (.int .i64 3)), none⟩,
 ⟨some 9, .mov (.tmp 11), none⟩])
 (.cond (.tmp 9)
 (.skip)
 (.seq
 (.reg [⟨some 12, .bin .eql .int (.tmp 8) (.const (.int .i64 4)), none⟩,
 ⟨some 9, .mov (.tmp 12), none⟩])
 (.cond (.tmp 9)
 (.skip)
 (.seq
 (.reg [⟨some 13, .bin .eql .int (.tmp 8) (.const (.int .i64 5)), none⟩,
 ⟨some 9, .mov (.tmp 13), none⟩])
 (.cond (.tmp 9)
 (.skip)
 (.reg [⟨some 14, .bin .eql .int (.tmp 8) (.const (.int .i64 6)), none⟩,
 ⟨some 9, .mov (.tmp 14), none⟩])))))))))
 (.cond (.tmp 9)
 (.seq
 (.reg [⟨some 15, .faddr 1 (.tmp 1), none⟩,
 ⟨some 16, .load false 1 (.tmp 15), none⟩,
 ⟨some 17, .bin .eql .int (.tmp 16) (.const (.int .i64 0)), none⟩,
 ⟨some 18, .mov (.tmp 17), none⟩,
 ⟨some 19, .mov (.tmp 3), some (18, true)⟩,
 ⟨some 20, .bin .eql .int (.tmp 19) (.const (.int .i64 0)), some (18, true)⟩,
 ⟨some 21, .pick (.tmp 18) (.tmp 20) (.const (.bool false)), none⟩,
 ⟨some 2, .mov (.tmp 21), none⟩])
 (.ret))
 (.seq
 (.seq
 (.reg [⟨some 23, .bin .eql .int (.tmp 8) (.const (.int .i64 1)), none⟩,
 ⟨some 22, .mov (.tmp 23), none⟩])
 (.cond (.tmp 22)
 (.skip)
 (.reg [⟨some 24, .bin .eql .int (.tmp 8) (.const (.int .i64 2)), none⟩,
 ⟨some 22, .mov (.tmp 24), none⟩])))
 (.cond (.tmp 22)
 (.seq
 (.reg [⟨some 25, .faddr 1 (.tmp 1), none⟩,
 ⟨some 26, .load false 1 (.tmp 25), none⟩,
 ⟨some 27, .bin .geq .int (.tmp 26) (.const (.int .i64 0)), none⟩,
 ⟨some 28, .mov (.tmp 27), none⟩,
 ⟨some 29, .mov (.tmp 3), some (28, true)⟩,
 ⟨some 30, .bin .eql .int (.tmp 29) (.const (.int .i64 0)), some (28, true)⟩,
 ⟨some 31, .pick (.tmp 28) (.tmp 30) (.const (.bool false)), none⟩,
 ⟨some 2, .mov (.tmp 31), none⟩])
 (.ret))
 (.seq
 (.reg [⟨some 33, .bin .eql .int (.tmp 8) (.const (.int .i64 7)), none⟩,
 ⟨some 32, .mov (.tmp 33), none⟩])
 (.cond (.tmp 32)
 (.seq
 (.reg [⟨some 34, .faddr 1 (.tmp 1), none⟩,
 ⟨some 35, .load false 1 (.tmp 34), none⟩,
 ⟨some 36, .bin .geq .int (.tmp 35) (.const (.int .i64 0)), none⟩,
 ⟨some 2, .mov (.tmp 36), none⟩])
 (.ret))
 (.seq
 (.reg [⟨some 38, .bin .eql .int (.tmp 8) (.const (.int .i64 8)), none⟩,
 ⟨some 37, .mov (.tmp 38), none⟩])
 (.cond (.tmp 37)
 (.seq
 (.reg [⟨some 39, .faddr 1 (.tmp 1), none⟩,
 ⟨some 40, .load false 1 (.tmp 39), none⟩,
 ⟨some 41, .bin .eql .int (.tmp 40) (.const (.int .i64 0)), none⟩,
 ⟨some 42, .mov (.tmp 41), none⟩,
 ⟨some 43, .faddr 1 (.tmp 1), some (42, false)⟩,
 ⟨some 44, .load false 1 (.tmp 43), some (42, false)⟩,
 ⟨some 45, .bin .eql .int (.tmp 44) (.const (.int .i64 1)), some (42, false)⟩,
 ⟨some 46, .pick (.tmp 42) (.const (.bool true)) (.tmp 45), none⟩,
 ⟨some 47, .mov (.tmp 46), none⟩,
 ⟨some 48, .mov (.tmp 3), some (47, true)⟩,
 ⟨some 49, .bin .eql .int (.tmp 48) (.const (.int .i64 1)), some (47, true)⟩,
 ⟨some 50, .pick (.tmp 47) (.tmp 49) (.const (.bool false)), none⟩,
 ⟨some 2, .mov (.tmp 50), none⟩])
 (.ret))
 (.seq
 (.reg [⟨some 52, .bin .eql .int (.tmp 8) (.const (.int .i64 9)), none⟩,
 ⟨some 51, .mov (.tmp 52), none⟩])
 (.cond (.tmp 51)
 (.seq
 (.reg [⟨some 53, .faddr 1 (.tmp 1), none⟩,
 ⟨some 54, .load false 1 (.tmp 53), none⟩,
 ⟨some 55, .bin .eql .int (.tmp 54) (.const (.int .i64 0)), none⟩,
 ⟨some 56, .mov (.tmp 55), none⟩,
 ⟨some 57, .mov (.tmp 3), some (56, true)⟩,
 ⟨some 58, .bin .gtr .int (.tmp 57) (.const (.int .i64 0)), some (56, true)⟩,
 ⟨some 59, .pick (.tmp 56) (.tmp 58) (.const (.bool false)), none⟩,
 ⟨some 2, .mov (.tmp 59), none⟩])
 (.ret))
 (.seq
 (.reg [⟨some 61, .bin .eql .int (.tmp 8) (.const (.int .i64 10)), none⟩,
 ⟨some 60, .mov (.tmp 61), none⟩])
 (.cond (.tmp 60)
 (.seq
 (.reg [⟨some 62, .faddr 1 (.tmp 1), none⟩,
 ⟨some 63, .load false 1 (.tmp 62), none⟩,
 ⟨some 64, .bin .geq .int (.tmp 63) (.const (.int .i64 0)), none⟩,
 ⟨some 65, .mov (.tmp 64), none⟩,
 ⟨some 66, .mov (.tmp 3), some (65, true)⟩,
 ⟨some 67, .bin .eql .int (.tmp 66) (.const (.int .i64 1)), some (65, true)⟩,
 ⟨some 68, .pick (.tmp 65) (.tmp 67) (.const (.bool false)), none⟩,
 ⟨some 2, .mov (.tmp 68), none⟩])
 (.ret))
 (.skip)))))))))))))))
 (.seq
 (.reg [⟨some 2, .mov (.const (.bool false)), none⟩])
 (.ret))))
theorem fn152 : Fun Try.prog 152 69 ac152 [.tmp 2] := ⟨mixedU, Try.f152, _, Try.func152, rfl, by decide +kernel, rfl, by kernel_rfl, by kernel_rfl⟩
/- glossator/types.wellFormed$1 -/
def ac153 : AC := .seq
 (.reg [⟨some 1, .box 26 3 (.tmp 0), none⟩,
 ⟨some 2, .mov (.const (.bool false)), none⟩])
 (.seq
 (.reg [⟨some 3, .load true 3 (.tmp 1), none⟩,
 ⟨some 4, .call (.func 92) [(.tmp 3)], none⟩,
 ⟨some 5, .un .not (.tmp 4), none⟩,
 ⟨some 2, .mov (.tmp 5), none⟩])
 (.ret))
theorem fn153 : Fun Try.prog 153 6 ac153 [.tmp 2] := ⟨mixedU, Try.f153, _, Try.func153, rfl, by decide +kernel, rfl, by kernel_rfl, by kernel_rfl⟩
/- slices.IndexFunc[[]int,int] -/
def ac158_l0 : AC := .seq
 (.reg [⟨some 9, .bin .lss .int (.tmp 8) (.tmp 7), none⟩])
 (.seq
 (.cond (.tmp 9)
 (.skip)
 (.exit 0))
 (.seq
 (.block 1
 (.seq
 (.reg [⟨some 10, .mov (.tmp 8), none⟩,
 ⟨some 5, .mov (.tmp 10), none⟩])
 (.seq
 (.reg [⟨some 11, .mov (.tmp 1), none⟩,
 ⟨some 12, .mov (.tmp 0), none⟩,
 ⟨some 13, .mov (.tmp 5), none⟩,
 ⟨some 14, .iaddr 1 (.tmp 12) (.tmp 13), none⟩,
 ⟨some 15, .load false 1 (.tmp 14), none⟩,
 ⟨some 16, .call (.tmp 11) [(.tmp 15)], none⟩])
 (.cond (.tmp 16)
 (.seq
 (.reg [⟨some 17, .mov (.tmp 5), none⟩,
 ⟨some 4, .mov (.tmp 17), none⟩])
 (.ret))
 (.skip)))))
 (.reg [⟨some 18, .bin .add .int (.tmp 8) (.const (.int .i64 1)), none⟩,
 ⟨some 8, .mov (.tmp 18), none⟩])))
def ac158 : AC := .seq
 (.reg [⟨some 4, .mov (.const (.int .i64 0)), none⟩])
 (.seq
 (.seq
 (.reg [⟨some 6, .mov (.tmp 0), none⟩,
 ⟨some 7, .slen false (.tmp 6), none⟩,
 ⟨some 8, .mov (.const (.int .i64 0)), none⟩])
 (.block 0
 (.loop ac158_l0)))
 (.seq
 (.reg [⟨some 4, .mov (.const (.int .i64 (-1))), none⟩])
 (.ret)))
theorem fn158 : Fun Try.prog 158 19 ac158 [.tmp 4] := ⟨mixedU, Try.f158, _, Try.func158, rfl, by decide +kernel, rfl, by kernel_rfl, by kernel_rfl⟩
/- glossator/types.Clone$1 -/
def ac178 : AC := .seq
 (.reg [⟨some 1, .box 26 3 (.tmp 0), none⟩,
 ⟨some 2, .alloc 26 3 [(.int .i64 0), (.int .i64 0), (.slice none 0 0)], none⟩,
 ⟨some 3, .mov (.const (.bool false)), none⟩])
 (.seq
 (.reg [⟨some 4, .build [(.int .i64 0), (.int .i64 0), (.slice none 0 0)] [(0, 1), (1, 1), (2, 1)] [], none⟩,
 ⟨none, .store 3 (.tmp 2) (.tmp 4), none⟩,
 ⟨some 3, .mov (.const (.bool false)), none⟩])
 (.ret))
theorem fn178 : Fun Try.prog 178 5 ac178 [.cell 2 3 true, .tmp 3] := ⟨mixedU, Try.f178, _, Try.func178, rfl, by decide +kernel, rfl, by kernel_rfl, by kernel_rfl⟩
/- (glossator/traits.solver).matchingImpl$1 -/
def ac179 : AC := .seq
 (.reg [⟨some 3, .mov (.const (.bool false)), none⟩])
 (.seq
 (.reg [⟨some 4, .faddr 1 (.tmp 1), none⟩,
 ⟨some 5, .load true 3 (.tmp 4), none⟩,
 ⟨some 6, .mov (.tmp 0), none⟩,
 ⟨some 7, .call (.func 180) [(.tmp 5), (.tmp 6)], none⟩,
 ⟨some 8, .un .not (.tmp 7), none⟩,
 ⟨some 3, .mov (.tmp 8), none⟩])
 (.ret))
theorem fn179 : Fun Try.prog 179 9 ac179 [.tmp 3] := ⟨mixedU, Try.f179, _, Try.func179, rfl, by decide +kernel, rfl, by kernel_rfl, by kernel_rfl⟩
/- glossator/traits.containsParam -/
def ac180 : AC := .seq
 (.reg [⟨some 2, .box 26 3 (.tmp 0), none⟩,
 ⟨some 3, .box 3 1 (.tmp 1), none⟩,
 ⟨some 4, .mov (.const (.bool false)), none⟩])
 (.seq
 (.reg [⟨some 5, .faddr 0 (.tmp 2), none⟩,
 ⟨some 6, .load false 1 (.tmp 5), none⟩,
 ⟨some 7, .bin .eql .int (.tmp 6) (.const (.int .i64 2)), none⟩,
 ⟨some 8, .mov (.tmp 7), none⟩,
 ⟨some 9, .faddr 1 (.tmp 2), some (8, true)⟩,
 ⟨some 10, .load false 1 (.tmp 9), some (8, true)⟩,
 ⟨some 11, .load false 1 (.tmp 3), some (8, true)⟩,
 ⟨some 12, .bin .eql .int (.tmp 10) (.tmp 11), some (8, true)⟩,
 ⟨some 13, .pick (.tmp 8) (.tmp 12) (.const (.bool false)), none⟩,
 ⟨some 14, .mov (.tmp 13), none⟩,
 ⟨some 15, .faddr 2 (.tmp 2), some (14, false)⟩,
 ⟨some 16, .load false 1 (.tmp 15), some (14, false)⟩,
 ⟨some 17, .mkfn 204 [(.tmp 3)], some (14, false)⟩,
 ⟨some 18, .call (.func 90) [(.tmp 16), (.tmp 17)], some (14, false)⟩,
 ⟨some 19, .pick (.tmp 14) (.const (.bool true)) (.tmp 18), none⟩,
 ⟨some 4, .mov (.tmp 19), none⟩])
 (.ret))
theorem fn180 : Fun Try.prog 180 20 ac180 [.tmp 4] := ⟨mixedU, Try.f180, _, Try.func180, rfl, by decide +kernel, rfl, by kernel_rfl, by kernel_rfl⟩
/- glossator/scheme.Match -/
def ac181 : AC := .seq
 (.reg [⟨some 3, .box 26 3 (.tmp 0), none⟩,
 ⟨some 4, .box 26 3 (.tmp 1), none⟩,
 ⟨some 6, .mov (.const (.slice none 0 0)), none⟩,
 ⟨some 7, .mov (.const (.bool false)), none⟩])
 (.seq
 (.dreg [⟨some 9, .mov (.tmp 2), none⟩,
 ⟨some 10, .mov (.tmp 2), none⟩,
 ⟨some 11, .slen false (.tmp 10), none⟩,
 ⟨some 12, .mkslice 26 3 [(.int .i64 0), (.int .i64 0), (.slice none 0 0)] (.tmp 11) (.tmp 11), none⟩,
 ⟨some 13, .mov (.tmp 2), none⟩,
 ⟨some 14, .slen false (.tmp 13), none⟩,
 ⟨some 15, .mkslice 4 1 [(.bool false)] (.tmp 14) (.tmp 14), none⟩,
 ⟨some 16, .build [(.slice none 0 0), (.slice none 0 0), (.slice none 0 0)] [(0, 1), (1, 1), (2, 1)] [(0, (.tmp 9)), (1, (.tmp 12)), (2, (.tmp 15))], none⟩,
 ⟨some 17, .box 231 3 (.tmp 16), none⟩,
 ⟨some 8, .mov (.tmp 17), none⟩]
 [[], [], [1], [2, 2], [], [4], [5, 5], [0, 3, 6], [7], [8, 0, 1, 2, 3, 4, 5, 6, 7, 8]]
 [[2], [2], [10], [11, 11], [2], [13], [14, 14], [9, 12, 15], [16], [17]])
 (.seq
 (.seq
 (.reg [⟨some 18, .mov (.tmp 8), none⟩,
 ⟨some 19, .load true 3 (.tmp 3), none⟩,
 ⟨some 20, .load true 3 (.tmp 4), none⟩,
 ⟨some 21, .call (.func 205) [(.tmp 18), (.tmp 19), (.tmp 20)], none⟩,
 ⟨some 22, .un .not (.tmp 21), none⟩])
 (.cond (.tmp 22)
 (.seq
 (.reg [⟨some 6, .mov (.const (.slice none 0 0)), none⟩,
 ⟨some 7, .mov (.const (.bool false)), none⟩])
 (.ret))
 (.skip)))
 (.seq
 (.reg [⟨some 23, .mov (.tmp 8), none⟩,
 ⟨some 24, .nilc (.tmp 23), none⟩,
 ⟨some 25, .faddr 1 (.tmp 24), none⟩,
 ⟨some 26, .load false 1 (.tmp 25), none⟩,
 ⟨some 6, .mov (.tmp 26), none⟩,
 ⟨some 7, .mov (.const (.bool true)), none⟩])
 (.ret))))
theorem fn181 : Fun Try.prog 181 27 ac181 [.tmp 6, .tmp 7] := ⟨mixedU, Try.f181, _, Try.func181, rfl, by decide +kernel, rfl, by kernel_rfl, by kernel_rfl⟩
/- (*glossator/assoctypes.normalizer).trait -/
def ac182 : AC := .seq
 (.reg [⟨some 4, .mov (.const (.int .i64 0)), none⟩])
 (.seq
 (.seq
 (.reg [⟨some 6, .mov (.tmp 1), none⟩,
 ⟨some 7, .bin .lss .int (.tmp 6) (.const (.int .i64 0)), none⟩,
 ⟨some 8, .mov (.tmp 7), none⟩,
 ⟨some 9, .mov (.tmp 1), some (8, false)⟩,
 ⟨some 10, .mov (.tmp 0), some (8, false)⟩,
 ⟨some 11, .nilc (.tmp 10), some (8, false)⟩,
 ⟨some 12, .faddr 0 (.tmp 11), some (8, false)⟩,
 ⟨some 13, .faddr 0 (.tmp 12), some (8, false)⟩,
 ⟨some 14, .load false 1 (.tmp 13), some (8, false)⟩,
 ⟨some 15, .slen false (.tmp 14), some (8, false)⟩,
 ⟨some 16, .bin .geq .int (.tmp 9) (.tmp 15), some (8, false)⟩,
 ⟨some 17, .pick (.tmp 8) (.const (.bool true)) (.tmp 16), none⟩,
 ⟨some 18, .mov (.tmp 17), none⟩,
 ⟨some 19, .mov (.tmp 0), some (18, false)⟩,
 ⟨some 20, .nilc (.tmp 19), some (18, false)⟩,
 ⟨some 21, .faddr 0 (.tmp 20), some (18, false)⟩,
 ⟨some 22, .faddr 0 (.tmp 21), some (18, false)⟩,
 ⟨some 23, .load false 1 (.tmp 22), some (18, false)⟩,
 ⟨some 24, .mov (.tmp 1), some (18, false)⟩,
 ⟨some 25, .iaddr 6 (.tmp 23) (.tmp 24), some (18, false)⟩,
 ⟨some 26, .faddr 0 (.tmp 25), some (18, false)⟩,
 ⟨some 27, .load false 1 (.tmp 26), some (18, false)⟩,
 ⟨some 28, .bin .neq .int (.tmp 27) (.const (.int .i64 13)), some (18, false)⟩,
 ⟨some 29, .pick (.tmp 18) (.const (.bool true)) (.tmp 28), none⟩])
 (.cond (.tmp 29)
 (.seq
 (.reg [⟨some 4, .mov (.const (.int .i64 (-1))), none⟩])
 (.ret))
 (.skip)))
 (.seq
 (.reg [⟨some 30, .mov (.tmp 0), none⟩,
 ⟨some 31, .nilc (.tmp 30), none⟩,
 ⟨some 32, .faddr 0 (.tmp 31), none⟩,
 ⟨some 33, .faddr 0 (.tmp 32), none⟩,
 ⟨some 34, .load false 1 (.tmp 33), none⟩,
 ⟨some 35, .mov (.tmp 1), none⟩,
 ⟨some 36, .iaddr 6 (.tmp 34) (.tmp 35), none⟩,
 ⟨some 37, .faddr 3 (.tmp 36), none⟩,
 ⟨some 38, .load false 1 (.tmp 37), none⟩,
 ⟨some 5, .mov (.tmp 38), none⟩])
 (.seq
 (.seq
 (.reg [⟨some 39, .mov (.tmp 5), none⟩,
 ⟨some 40, .bin .lss .int (.tmp 39) (.const (.int .i64 0)), none⟩,
 ⟨some 41, .mov (.tmp 40), none⟩,
 ⟨some 42, .mov (.tmp 5), some (41, false)⟩,
 ⟨some 43, .mov (.tmp 0), some (41, false)⟩,
 ⟨some 44, .nilc (.tmp 43), some (41, false)⟩,
 ⟨some 45, .faddr 0 (.tmp 44), some (41, false)⟩,
 ⟨some 46, .faddr 0 (.tmp 45), some (41, false)⟩,
 ⟨some 47, .load false 1 (.tmp 46), some (41, false)⟩,
 ⟨some 48, .slen false (.tmp 47), some (41, false)⟩,
 ⟨some 49, .bin .geq .int (.tmp 42) (.tmp 48), some (41, false)⟩,
 ⟨some 50, .pick (.tmp 41) (.const (.bool true)) (.tmp 49), none⟩,
 ⟨some 51, .mov (.tmp 50), none⟩,
 ⟨some 52, .mov (.tmp 0), some (51, false)⟩,
 ⟨some 53, .nilc (.tmp 52), some (51, false)⟩,
 ⟨some 54, .faddr 0 (.tmp 53), some (51, false)⟩,
 ⟨some 55, .faddr 0 (.tmp 54), some (51, false)⟩,
 ⟨some 56, .load false 1 (.tmp 55), some (51, false)⟩,
 ⟨some 57, .mov (.tmp 5), some (51, false)⟩,
 ⟨some 58, .iaddr 6 (.tmp 56) (.tmp 57), some (51, false)⟩,
 ⟨some 59, .faddr 0 (.tmp 58), some (51, false)⟩,
 ⟨some 60, .load false 1 (.tmp 59), some (51, false)⟩,
 ⟨some 61, .bin .neq .int (.tmp 60) (.const (.int .i64 5)), some (51, false)⟩,
 ⟨some 62, .pick (.tmp 51) (.const (.bool true)) (.tmp 61), none⟩])
 (.cond (.tmp 62)
 (.seq
 (.reg [⟨some 4, .mov (.const (.int .i64 (-1))), none⟩])
 (.ret))
 (.skip)))
 (.seq
 (.reg [⟨some 63, .mov (.tmp 5), none⟩,
 ⟨some 4, .mov (.tmp 63), none⟩])
 (.ret)))))
theorem fn182 : Fun Try.prog 182 64 ac182 [.tmp 4] := ⟨mixedU, Try.f182, _, Try.func182, rfl, by decide +kernel, rfl, by kernel_rfl, by kernel_rfl⟩
/- slices.IndexFunc[[]glossator/api.Symbol,glossator/api.Symbol] -/
def ac183_l0 : AC := .seq
 (.reg [⟨some 9, .bin .lss .int (.tmp 8) (.tmp 7), none⟩])
 (.seq
 (.cond (.tmp 9)
 (.skip)
 (.exit 0))
 (.seq
 (.block 1
 (.seq
 (.reg [⟨some 10, .mov (.tmp 8), none⟩,
 ⟨some 5, .mov (.tmp 10), none⟩])
 (.seq
 (.reg [⟨some 11, .mov (.tmp 1), none⟩,
 ⟨some 12, .mov (.tmp 0), none⟩,
 ⟨some 13, .mov (.tmp 5), none⟩,
 ⟨some 14, .iaddr 6 (.tmp 12) (.tmp 13), none⟩,
 ⟨some 15, .load true 6 (.tmp 14), none⟩,
 ⟨some 16, .call (.tmp 11) [(.tmp 15)], none⟩])
 (.cond (.tmp 16)
 (.seq
 (.reg [⟨some 17, .mov (.tmp 5), none⟩,
 ⟨some 4, .mov (.tmp 17), none⟩])
 (.ret))
 (.skip)))))
 (.reg [⟨some 18, .bin .add .int (.tmp 8) (.const (.int .i64 1)), none⟩,
 ⟨some 8, .mov (.tmp 18), none⟩])))
def ac183 : AC := .seq
 (.reg [⟨some 4, .mov (.const (.int .i64 0)), none⟩])
 (.seq
 (.seq
 (.reg [⟨some 6, .mov (.tmp 0), none⟩,
 ⟨some 7, .slen false (.tmp 6), none⟩,
 ⟨some 8, .mov (.const (.int .i64 0)), none⟩])
 (.block 0
 (.loop ac183_l0)))
 (.seq
 (.reg [⟨some 4, .mov (.const (.int .i64 (-1))), none⟩])
 (.ret)))
theorem fn183 : Fun Try.prog 183 19 ac183 [.tmp 4] := ⟨mixedU, Try.f183, _, Try.func183, rfl, by decide +kernel, rfl, by kernel_rfl, by kernel_rfl⟩
/- (*glossator/assoctypes.normalizer).projection$1 -/
def ac184 : AC := .seq
 (.reg [⟨some 4, .box 125 6 (.tmp 0), none⟩,
 ⟨some 5, .mov (.const (.bool false)), none⟩])
 (.seq
 (.dreg [⟨some 6, .faddr 0 (.tmp 4), none⟩,
 ⟨some 7, .load false 1 (.tmp 6), none⟩,
 ⟨some 8, .bin .eql .int (.tmp 7) (.const (.int .i64 13)), none⟩,
 ⟨some 9, .mov (.tmp 8), none⟩,
 ⟨some 10, .faddr 3 (.tmp 4), some (9, true)⟩,
 ⟨some 11, .load false 1 (.tmp 10), some (9, true)⟩,
 ⟨some 12, .faddr 4 (.tmp 1), some (9, true)⟩,
 ⟨some 13, .load false 1 (.tmp 12), some (9, true)⟩,
 ⟨some 14, .bin .eql .int (.tmp 11) (.tmp 13), some (9, true)⟩,
 ⟨some 15, .pick (.tmp 9) (.tmp 14) (.const (.bool false)), none⟩,
 ⟨some 16, .mov (.tmp 15), none⟩,
 ⟨some 17, .faddr 4 (.tmp 4), some (16, true)⟩,
 ⟨some 18, .load false 1 (.tmp 17), some (16, true)⟩,
 ⟨some 19, .load false 1 (.tmp 2), some (16, true)⟩,
 ⟨some 20, .nilc (.tmp 19), some (16, true)⟩,
 ⟨some 21, .faddr 0 (.tmp 20), some (16, true)⟩,
 ⟨some 22, .faddr 0 (.tmp 21), some (16, true)⟩,
 ⟨some 23, .load false 1 (.tmp 22), some (16, true)⟩,
 ⟨some 24, .faddr 1 (.tmp 3), some (16, true)⟩,
 ⟨some 25, .load false 1 (.tmp 24), some (16, true)⟩,
 ⟨some 26, .iaddr 6 (.tmp 23) (.tmp 25), some (16, true)⟩,
 ⟨some 27, .faddr 4 (.tmp 26), some (16, true)⟩,
 ⟨some 28, .load false 1 (.tmp 27), some (16, true)⟩,
 ⟨some 29, .bin .eql .str (.tmp 18) (.tmp 28), some (16, true)⟩,
 ⟨some 30, .pick (.tmp 16) (.tmp 29) (.const (.bool false)), none⟩,
 ⟨some 5, .mov (.tmp 30), none⟩]
 [[], [0], [1], [2], [3], [4, 3], [3], [6, 3], [5, 7, 3], [3, 8], [9, 3], [10], [11, 10], [10], [13, 10], [14, 10], [15, 10], [16, 10], [10], [18, 10], [17, 19, 10], [20, 10], [21, 10], [12, 22, 10], [10, 23], [24, 10, 0, 1, 2, 3, 4, 5, 6, 7, 8, 9, 10, 11, 12, 13, 14, 15, 16, 17, 18, 19, 20, 21, 22, 23, 24]]
 [[4], [6], [7], [8], [4, 9], [10, 9], [1, 9], [12, 9], [11, 13, 9], [9, 14], [15], [4, 16], [17, 16], [2, 16], [19, 16], [20, 16], [21, 16], [22, 16], [3, 16], [24, 16], [23, 25, 16], [26, 16], [27, 16], [18, 28, 16], [16, 29], [30]])
 (.ret))
theorem fn184 : Fun Try.prog 184 31 ac184 [.tmp 5] := ⟨mixedU, Try.f184, _, Try.func184, rfl, by decide +kernel, rfl, by kernel_rfl, by kernel_rfl⟩
/- glossator/traits.containsParam$1 -/
def ac204 : AC := .seq
 (.reg [⟨some 2, .box 26 3 (.tmp 0), none⟩,
 ⟨some 3, .mov (.const (.bool false)), none⟩])
 (.seq
 (.reg [⟨some 4, .load true 3 (.tmp 2), none⟩,
 ⟨some 5, .load false 1 (.tmp 1), none⟩,
 ⟨some 6, .call (.func 180) [(.tmp 4), (.tmp 5)], none⟩,
 ⟨some 3, .mov (.tmp 6), none⟩])
 (.ret))
theorem fn204 : Fun Try.prog 204 7 ac204 [.tmp 3] := ⟨mixedU, Try.f204, _, Try.func204, rfl, by decide +kernel, rfl, by kernel_rfl, by kernel_rfl⟩
/- (*glossator/scheme.matcher).match -/
def ac205_l0 : AC := .seq
 (.reg [⟨some 78, .bin .lss .int (.tmp 77) (.tmp 76), none⟩])
 (.seq
 (.cond (.tmp 78)
 (.skip)
 (.exit 0))
 (.seq
 (.block 1
 (.seq
 (.reg [⟨some 79, .mov (.tmp 77), none⟩,
 ⟨some 8, .mov (.tmp 79), none⟩])
 (.seq
 (.dreg [⟨some 80, .mov (.tmp 0), none⟩,
 ⟨some 81, .faddr 2 (.tmp 4), none⟩,
 ⟨some 82, .load false 1 (.tmp 81), none⟩,
 ⟨some 83, .mov (.tmp 8), none⟩,
 ⟨some 84, .iaddr 3 (.tmp 82) (.tmp 83), none⟩,
 ⟨some 85, .load true 3 (.tmp 84), none⟩,
 ⟨some 86, .faddr 2 (.tmp 5), none⟩,
 ⟨some 87, .load false 1 (.tmp 86), none⟩,
 ⟨some 88, .mov (.tmp 8), none⟩,
 ⟨some 89, .iaddr 3 (.tmp 87) (.tmp 88), none⟩,
 ⟨some 90, .load true 3 (.tmp 89), none⟩,
 ⟨some 91, .call (.func 205) [(.tmp 80), (.tmp 85), (.tmp 90)], none⟩,
 ⟨some 92, .un .not (.tmp 91), none⟩]
 [[], [], [1], [], [2, 3], [4], [], [6], [], [7, 8], [9], [0, 5, 10], [11]]
 [[0], [4], [81], [8], [82, 83], [84], [5], [86], [8], [87, 88], [89], [80, 85, 90], [91]])
 (.cond (.tmp 92)
 (.seq
 (.reg [⟨some 6, .mov (.const (.bool false)), none⟩])
 (.ret))
 (.skip)))))
 (.reg [⟨some 93, .bin .add .int (.tmp 77) (.const (.int .i64 1)), none⟩,
 ⟨some 77, .mov (.tmp 93), none⟩])))
def ac205 : AC := .seq
 (.reg [⟨some 4, .box 26 3 (.tmp 1), none⟩,
 ⟨some 5, .box 26 3 (.tmp 2), none⟩,
 ⟨some 6, .mov (.const (.bool false)), none⟩])
 (.seq
 (.seq
 (.dreg [⟨some 9, .mov (.tmp 0), none⟩,
 ⟨some 10, .nilc (.tmp 9), none⟩,
 ⟨some 11, .faddr 0 (.tmp 10), none⟩,
 ⟨some 12, .load false 1 (.tmp 11), none⟩,
 ⟨some 13, .faddr 1 (.tmp 5), none⟩,
 ⟨some 14, .load false 1 (.tmp 13), none⟩,
 ⟨some 15, .call (.func 119) [(.tmp 12), (.tmp 14)], none⟩,
 ⟨some 7, .mov (.tmp 15), none⟩]
 [[], [0], [1], [2], [], [4], [3, 5], [6, 6, 0, 1, 2, 3, 4, 5, 6]]
 [[0], [9], [10], [11], [5], [13], [12, 14], [15]])
 (.seq
 (.reg [⟨some 16, .faddr 0 (.tmp 5), none⟩,
 ⟨some 17, .load false 1 (.tmp 16), none⟩,
 ⟨some 18, .bin .eql .int (.tmp 17) (.const (.int .i64 2)), none⟩,
 ⟨some 19, .mov (.tmp 18), none⟩,
 ⟨some 20, .mov (.tmp 7), some (19, true)⟩,
 ⟨some 21, .bin .geq .int (.tmp 20) (.const (.int .i64 0)), some (19, true)⟩,
 ⟨some 22, .pick (.tmp 19) (.tmp 21) (.const (.bool false)), none⟩])
 (.cond (.tmp 22)
 (.seq
 (.seq
 (.reg [⟨some 23, .mov (.tmp 0), none⟩,
 ⟨some 24, .nilc (.tmp 23), none⟩,
 ⟨some 25, .faddr 2 (.tmp 24), none⟩,
 ⟨some 26, .load false 1 (.tmp 25), none⟩,
 ⟨some 27, .mov (.tmp 7), none⟩,
 ⟨some 28, .iaddr 1 (.tmp 26) (.tmp 27), none⟩,
 ⟨some 29, .load false 1 (.tmp 28), none⟩])
 (.cond (.tmp 29)
 (.seq
 (.dreg [⟨some 30, .mov (.tmp 0), none⟩,
 ⟨some 31, .nilc (.tmp 30), none⟩,
 ⟨some 32, .faddr 1 (.tmp 31), none⟩,
 ⟨some 33, .load false 1 (.tmp 32), none⟩,
 ⟨some 34, .mov (.tmp 7), none⟩,
 ⟨some 35, .iaddr 3 (.tmp 33) (.tmp 34), none⟩,
 ⟨some 36, .load true 3 (.tmp 35), none⟩,
 ⟨some 37, .load true 3 (.tmp 4), none⟩,
 ⟨some 38, .call (.func 24) [(.tmp 36), (.tmp 37)], none⟩,
 ⟨some 6, .mov (.tmp 38), none⟩]
 [[], [0], [1], [2], [], [3, 4], [5], [], [6, 7], [8, 8, 0, 1, 2, 3, 4, 5, 6, 7, 8]]
 [[0], [30], [31], [32], [7], [33, 34], [35], [4], [36, 37], [38]])
 (.ret))
 (.skip)))
 (.seq
 (.dreg [⟨some 39, .mov (.tmp 0), none⟩,
 ⟨some 40, .nilc (.tmp 39), none⟩,
 ⟨some 41, .faddr 2 (.tmp 40), none⟩,
 ⟨some 42, .load false 1 (.tmp 41), none⟩,
 ⟨some 43, .mov (.tmp 7), none⟩,
 ⟨some 44, .mov (.tmp 0), none⟩,
 ⟨some 45, .nilc (.tmp 44), none⟩,
 ⟨some 46, .faddr 1 (.tmp 45), none⟩,
 ⟨some 47, .load false 1 (.tmp 46), none⟩,
 ⟨some 48, .mov (.tmp 7), none⟩,
 ⟨some 49, .load true 3 (.tmp 4), none⟩,
 ⟨some 50, .call (.func 142) [(.tmp 49)], none⟩,
 ⟨some 51, .iaddr 1 (.tmp 42) (.tmp 43), none⟩,
 ⟨none, .store 1 (.tmp 51) (.const (.bool true)), none⟩,
 ⟨some 52, .iaddr 3 (.tmp 47) (.tmp 48), none⟩,
 ⟨none, .store 3 (.tmp 52) (.tmp 50), none⟩]
 [[], [0], [1], [2], [], [], [5], [6], [7], [], [], [10], [3, 4, 0, 1, 2, 3, 4, 8, 11], [12, 11, 0, 1, 2, 3, 4, 8, 11], [8, 9, 0, 1, 2, 3, 4, 5, 6, 7, 8, 9, 10, 11, 12, 13], [14, 11, 13, 0, 1, 2, 3, 4, 5, 6, 7, 8, 9, 10, 11, 12, 13]]
 [[0], [39], [40], [41], [7], [0], [44], [45], [46], [7], [4], [49], [42, 43], [51], [47, 48], [52, 50]])
 (.seq
 (.reg [⟨some 6, .mov (.const (.bool true)), none⟩])
 (.ret))))
 (.skip))))
 (.seq
 (.seq
 (.reg [⟨some 53, .faddr 0 (.tmp 4), none⟩,
 ⟨some 54, .load false 1 (.tmp 53), none⟩,
 ⟨some 55, .faddr 0 (.tmp 5), none⟩,
 ⟨some 56, .load false 1 (.tmp 55), none⟩,
 ⟨some 57, .bin .neq .int (.tmp 54) (.tmp 56), none⟩,
 ⟨some 58, .mov (.tmp 57), none⟩,
 ⟨some 59, .faddr 1 (.tmp 4), some (58, false)⟩,
 ⟨some 60, .load false 1 (.tmp 59), some (58, false)⟩,
 ⟨some 61, .faddr 1 (.tmp 5), some (58, false)⟩,
 ⟨some 62, .load false 1 (.tmp 61), some (58, false)⟩,
 ⟨some 63, .bin .neq .int (.tmp 60) (.tmp 62), some (58, false)⟩,
 ⟨some 64, .pick (.tmp 58) (.const (.bool true)) (.tmp 63), none⟩,
 ⟨some 65, .mov (.tmp 64), none⟩,
 ⟨some 66, .faddr 2 (.tmp 4), some (65, false)⟩,
 ⟨some 67, .load false 1 (.tmp 66), some (65, false)⟩,
 ⟨some 68, .slen false (.tmp 67), some (65, false)⟩,
 ⟨some 69, .faddr 2 (.tmp 5), some (65, false)⟩,
 ⟨some 70, .load false 1 (.tmp 69), some (65, false)⟩,
 ⟨some 71, .slen false (.tmp 70), some (65, false)⟩,
 ⟨some 72, .bin .neq .int (.tmp 68) (.tmp 71), some (65, false)⟩,
 ⟨some 73, .pick (.tmp 65) (.const (.bool true)) (.tmp 72), none⟩])
 (.cond (.tmp 73)
 (.seq
 (.reg [⟨some 6, .mov (.const (.bool false)), none⟩])
 (.ret))
 (.skip)))
 (.seq
 (.seq
 (.reg [⟨some 74, .faddr 2 (.tmp 4), none⟩,
 ⟨some 75, .load false 1 (.tmp 74), none⟩,
 ⟨some 76, .slen false (.tmp 75), none⟩,
 ⟨some 77, .mov (.const (.int .i64 0)), none⟩])
 (.block 0
 (.loop ac205_l0)))
 (.seq
 (.reg [⟨some 6, .mov (.const (.bool true)), none⟩])
 (.ret)))))
theorem fn205 : Fun Try.prog 205 94 ac205 [.tmp 6] := ⟨mixedU, Try.f205, _, Try.func205, rfl, by decide +kernel, rfl, by kernel_rfl, by kernel_rfl⟩
end Go.Proofs.Ytbdoblgofddhdaa
