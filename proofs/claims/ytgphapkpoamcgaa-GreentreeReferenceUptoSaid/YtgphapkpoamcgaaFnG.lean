/- The compact texts of the functions, printed by a program of mine (wip/tools/PrintFn.lean); each is shown to be what the translation compiles to. -/
import Derived.Test.YtgphapkpoamcgaaK2
import Derived.Test.YtgphapkpoamcgaaProg
set_option maxRecDepth 100000
namespace Go.Proofs.Ytgphapkpoamcgaa
open Go Go.Ab
theorem mixedG : Try.prog.follows .mixedOrders = true := by kernel_rfl
/- glossator/glossatorlaw1.GreentreeReference -/
def ac12 : AC := .seq
 (.reg [⟨some 3, .box 75 1 (.tmp 0), none⟩,
 ⟨some 4, .box 78 3 (.tmp 1), none⟩,
 ⟨some 6, .mov (.const (.bool false)), none⟩])
 (.seq
 (.seq
 (.reg [⟨some 15, .call (.func 47) [], none⟩,
 ⟨some 16, .un .not (.tmp 15), none⟩])
 (.cond (.tmp 16)
 (.seq
 (.reg [⟨some 6, .mov (.const (.bool false)), none⟩])
 (.ret))
 (.skip)))
 (.seq
 (.reg [⟨some 17, .faddr 0 (.tmp 3), none⟩,
 ⟨some 18, .load false 1 (.tmp 17), none⟩,
 ⟨some 19, .faddr 0 (.tmp 3), none⟩,
 ⟨some 20, .load false 1 (.tmp 19), none⟩,
 ⟨some 21, .slen false (.tmp 20), none⟩,
 ⟨some 22, .minmax true (.tmp 21) (.const (.int .i64 60)), none⟩,
 ⟨some 23, .slice 4 (.tmp 18) none (some (.tmp 22)) none, none⟩,
 ⟨some 24, .faddr 0 (.tmp 3), none⟩,
 ⟨none, .store 1 (.tmp 24) (.tmp 23), none⟩])
 (.seq
 (.seq
 (.reg [⟨some 25, .load true 3 (.tmp 4), none⟩,
 ⟨some 26, .call (.func 48) [(.tmp 25), (.const (.int .i64 60))], none⟩,
 ⟨some 27, .bin .gtr .int (.tmp 26) (.const (.int .i64 60)), none⟩,
 ⟨some 28, .mov (.tmp 27), none⟩,
 ⟨some 29, .load true 3 (.tmp 4), some (28, false)⟩,
 ⟨some 30, .call (.func 49) [(.tmp 29)], some (28, false)⟩,
 ⟨some 31, .bin .gtr .int (.tmp 30) (.const (.int .i64 60)), some (28, false)⟩,
 ⟨some 32, .pick (.tmp 28) (.const (.bool true)) (.tmp 31), none⟩])
 (.cond (.tmp 32)
 (.seq
 (.reg [⟨some 6, .mov (.const (.bool true)), none⟩])
 (.ret))
 (.skip)))
 (.seq
 (.reg [⟨some 33, .load true 1 (.tmp 3), none⟩,
 ⟨some 34, .call (.func 50) [(.tmp 33)], none⟩,
 ⟨some 7, .mov (.tmp 34), none⟩])
 (.seq
 (.seq
 (.reg [⟨some 35, .load true 1 (.tmp 3), none⟩,
 ⟨some 36, .call (.func 51) [(.tmp 35)], none⟩,
 ⟨some 37, .mov (.tmp 7), none⟩,
 ⟨some 38, .bin .neq .int (.tmp 36) (.tmp 37), none⟩])
 (.cond (.tmp 38)
 (.seq
 (.reg [⟨some 6, .mov (.const (.bool false)), none⟩])
 (.ret))
 (.skip)))
 (.seq
 (.reg [⟨some 40, .load true 1 (.tmp 3), none⟩,
 ⟨some 41, .load true 3 (.tmp 4), none⟩,
 ⟨some 42, .call (.func 52) [(.tmp 40), (.tmp 41)], none⟩,
 ⟨some 39, .mov (.tmp 42), none⟩,
 ⟨some 43, .ext (.tmp 39) 0, none⟩,
 ⟨some 44, .ext (.tmp 39) 1, none⟩,
 ⟨some 45, .ext (.tmp 39) 2, none⟩,
 ⟨some 8, .alloc 75 1 [(.slice none 0 0)], none⟩,
 ⟨none, .store 1 (.tmp 8) (.tmp 43), none⟩,
 ⟨some 9, .mov (.tmp 44), none⟩,
 ⟨some 10, .mov (.tmp 45), none⟩])
 (.seq
 (.reg [⟨some 47, .load true 1 (.tmp 3), none⟩,
 ⟨some 48, .mov (.tmp 2), none⟩,
 ⟨some 49, .call (.func 53) [(.tmp 47), (.tmp 48)], none⟩,
 ⟨some 46, .mov (.tmp 49), none⟩,
 ⟨some 50, .ext (.tmp 46) 0, none⟩,
 ⟨some 51, .ext (.tmp 46) 1, none⟩,
 ⟨some 11, .alloc 78 3 [(.int .i64 0), (.string ⟨#[]⟩), (.slice none 0 0)], none⟩,
 ⟨none, .store 3 (.tmp 11) (.tmp 50), none⟩,
 ⟨some 12, .mov (.tmp 51), none⟩])
 (.seq
 (.seq
 (.reg [⟨some 52, .mov (.tmp 7), none⟩,
 ⟨some 53, .bin .neq .int (.tmp 52) (.const (.int .i64 0)), none⟩])
 (.cond (.tmp 53)
 (.seq
 (.reg [⟨some 54, .load true 1 (.tmp 8), none⟩,
 ⟨some 55, .build [(.slice none 0 0)] [(0, 1)] [], none⟩,
 ⟨some 56, .call (.func 54) [(.tmp 54), (.tmp 55)], none⟩,
 ⟨some 57, .mov (.tmp 56), none⟩,
 ⟨some 58, .mov (.tmp 9), some (57, true)⟩,
 ⟨some 59, .bin .eql .int (.tmp 58) (.const (.int .i64 0)), some (57, true)⟩,
 ⟨some 60, .pick (.tmp 57) (.tmp 59) (.const (.bool false)), none⟩,
 ⟨some 61, .mov (.tmp 60), none⟩,
 ⟨some 62, .mov (.tmp 10), some (61, true)⟩,
 ⟨some 63, .mov (.tmp 7), some (61, true)⟩,
 ⟨some 64, .bin .eql .int (.tmp 62) (.tmp 63), some (61, true)⟩,
 ⟨some 65, .pick (.tmp 61) (.tmp 64) (.const (.bool false)), none⟩,
 ⟨some 66, .mov (.tmp 65), none⟩,
 ⟨some 67, .load true 3 (.tmp 11), some (66, true)⟩,
 ⟨some 68, .build [(.int .i64 0), (.string ⟨#[]⟩), (.slice none 0 0)] [(0, 1), (1, 1), (2, 1)] [], some (66, true)⟩,
 ⟨some 69, .call (.func 55) [(.tmp 67), (.tmp 68)], some (66, true)⟩,
 ⟨some 70, .pick (.tmp 66) (.tmp 69) (.const (.bool false)), none⟩,
 ⟨some 71, .mov (.tmp 70), none⟩,
 ⟨some 72, .mov (.tmp 12), some (71, true)⟩,
 ⟨some 73, .mov (.tmp 7), some (71, true)⟩,
 ⟨some 74, .bin .eql .int (.tmp 72) (.tmp 73), some (71, true)⟩,
 ⟨some 75, .pick (.tmp 71) (.tmp 74) (.const (.bool false)), none⟩,
 ⟨some 6, .mov (.tmp 75), none⟩])
 (.ret))
 (.skip)))
 (.seq
 (.seq
 (.reg [⟨some 76, .load true 3 (.tmp 4), none⟩,
 ⟨some 77, .call (.func 56) [(.tmp 76)], none⟩])
 (.cond (.tmp 77)
 (.seq
 (.reg [⟨some 79, .load true 1 (.tmp 3), none⟩,
 ⟨some 80, .load true 3 (.tmp 4), none⟩,
 ⟨some 81, .call (.func 57) [(.tmp 79), (.tmp 80)], none⟩,
 ⟨some 78, .mov (.tmp 81), none⟩,
 ⟨some 82, .ext (.tmp 78) 0, none⟩,
 ⟨some 83, .ext (.tmp 78) 1, none⟩,
 ⟨some 13, .alloc 75 1 [(.slice none 0 0)], none⟩,
 ⟨none, .store 1 (.tmp 13) (.tmp 82), none⟩,
 ⟨some 14, .mov (.tmp 83), none⟩])
 (.seq
 (.reg [⟨some 84, .load true 1 (.tmp 8), none⟩,
 ⟨some 85, .load true 1 (.tmp 13), none⟩,
 ⟨some 86, .call (.func 54) [(.tmp 84), (.tmp 85)], none⟩,
 ⟨some 87, .un .not (.tmp 86), none⟩,
 ⟨some 88, .mov (.tmp 87), none⟩,
 ⟨some 89, .mov (.tmp 9), some (88, false)⟩,
 ⟨some 90, .mov (.tmp 14), some (88, false)⟩,
 ⟨some 91, .bin .neq .int (.tmp 89) (.tmp 90), some (88, false)⟩,
 ⟨some 92, .pick (.tmp 88) (.const (.bool true)) (.tmp 91), none⟩,
 ⟨some 93, .mov (.tmp 92), none⟩,
 ⟨some 94, .mov (.tmp 10), some (93, false)⟩,
 ⟨some 95, .bin .neq .int (.tmp 94) (.const (.int .i64 0)), some (93, false)⟩,
 ⟨some 96, .pick (.tmp 93) (.const (.bool true)) (.tmp 95), none⟩])
 (.cond (.tmp 96)
 (.seq
 (.reg [⟨some 6, .mov (.const (.bool false)), none⟩])
 (.ret))
 (.skip))))
 (.seq
 (.reg [⟨some 97, .load true 1 (.tmp 8), none⟩,
 ⟨some 98, .build [(.slice none 0 0)] [(0, 1)] [], none⟩,
 ⟨some 99, .call (.func 54) [(.tmp 97), (.tmp 98)], none⟩,
 ⟨some 100, .un .not (.tmp 99), none⟩,
 ⟨some 101, .mov (.tmp 100), none⟩,
 ⟨some 102, .mov (.tmp 9), some (101, false)⟩,
 ⟨some 103, .bin .neq .int (.tmp 102) (.const (.int .i64 0)), some (101, false)⟩,
 ⟨some 104, .pick (.tmp 101) (.const (.bool true)) (.tmp 103), none⟩,
 ⟨some 105, .mov (.tmp 104), none⟩,
 ⟨some 106, .mov (.tmp 10), some (105, false)⟩,
 ⟨some 107, .bin .neq .int (.tmp 106) (.const (.int .i64 3)), some (105, false)⟩,
 ⟨some 108, .pick (.tmp 105) (.const (.bool true)) (.tmp 107), none⟩])
 (.cond (.tmp 108)
 (.seq
 (.reg [⟨some 6, .mov (.const (.bool false)), none⟩])
 (.ret))
 (.skip)))))
 (.seq
 (.seq
 (.reg [⟨some 109, .mov (.tmp 2), none⟩,
 ⟨some 110, .bin .lss .int (.tmp 109) (.const (.int .i64 0)), none⟩,
 ⟨some 111, .mov (.tmp 110), none⟩,
 ⟨some 112, .mov (.tmp 2), some (111, false)⟩,
 ⟨some 113, .faddr 0 (.tmp 3), some (111, false)⟩,
 ⟨some 114, .load false 1 (.tmp 113), some (111, false)⟩,
 ⟨some 115, .slen false (.tmp 114), some (111, false)⟩,
 ⟨some 116, .bin .geq .int (.tmp 112) (.tmp 115), some (111, false)⟩,
 ⟨some 117, .pick (.tmp 111) (.const (.bool true)) (.tmp 116), none⟩])
 (.cond (.tmp 117)
 (.seq
 (.reg [⟨some 118, .load true 3 (.tmp 11), none⟩,
 ⟨some 119, .build [(.int .i64 0), (.string ⟨#[]⟩), (.slice none 0 0)] [(0, 1), (1, 1), (2, 1)] [], none⟩,
 ⟨some 120, .call (.func 55) [(.tmp 118), (.tmp 119)], none⟩,
 ⟨some 121, .mov (.tmp 120), none⟩,
 ⟨some 122, .mov (.tmp 12), some (121, true)⟩,
 ⟨some 123, .bin .eql .int (.tmp 122) (.const (.int .i64 5)), some (121, true)⟩,
 ⟨some 124, .pick (.tmp 121) (.tmp 123) (.const (.bool false)), none⟩,
 ⟨some 6, .mov (.tmp 124), none⟩])
 (.ret))
 (.skip)))
 (.seq
 (.seq
 (.reg [⟨some 125, .load true 1 (.tmp 3), none⟩,
 ⟨some 126, .mov (.tmp 2), none⟩,
 ⟨some 127, .call (.func 58) [(.tmp 125), (.tmp 126)], none⟩,
 ⟨some 128, .bin .gtr .int (.tmp 127) (.const (.int .i64 4000)), none⟩])
 (.cond (.tmp 128)
 (.seq
 (.reg [⟨some 129, .load true 3 (.tmp 11), none⟩,
 ⟨some 130, .build [(.int .i64 0), (.string ⟨#[]⟩), (.slice none 0 0)] [(0, 1), (1, 1), (2, 1)] [], none⟩,
 ⟨some 131, .call (.func 55) [(.tmp 129), (.tmp 130)], none⟩,
 ⟨some 132, .mov (.tmp 131), none⟩,
 ⟨some 133, .mov (.tmp 12), some (132, true)⟩,
 ⟨some 134, .bin .eql .int (.tmp 133) (.const (.int .i64 2)), some (132, true)⟩,
 ⟨some 135, .pick (.tmp 132) (.tmp 134) (.const (.bool false)), none⟩,
 ⟨some 6, .mov (.tmp 135), none⟩])
 (.ret))
 (.skip)))
 (.seq
 (.dreg [⟨some 136, .mov (.tmp 12), none⟩,
 ⟨some 137, .bin .eql .int (.tmp 136) (.const (.int .i64 0)), none⟩,
 ⟨some 138, .mov (.tmp 137), none⟩,
 ⟨some 139, .load true 3 (.tmp 11), some (138, true)⟩,
 ⟨some 140, .load true 1 (.tmp 3), some (138, true)⟩,
 ⟨some 141, .mov (.tmp 2), some (138, true)⟩,
 ⟨some 142, .call (.func 59) [(.tmp 140), (.tmp 141)], some (138, true)⟩,
 ⟨some 143, .call (.func 55) [(.tmp 139), (.tmp 142)], some (138, true)⟩,
 ⟨some 144, .pick (.tmp 138) (.tmp 143) (.const (.bool false)), none⟩,
 ⟨some 6, .mov (.tmp 144), none⟩]
 [[], [0], [1], [2], [2], [2], [4, 5, 2, 2], [3, 6, 6, 2], [2, 7], [8, 7, 0, 1, 2, 3, 4, 5, 6, 7, 8]]
 [[12], [136], [137], [11, 138], [3, 138], [2, 138], [140, 141, 138], [139, 142, 138], [138, 143], [144]])
 (.ret)))))))))))))
theorem fn12 : Fun Try.prog 12 145 ac12 [.tmp 6] := ⟨mixedG, Try.f12, _, Try.func12, rfl, by decide +kernel, rfl, by kernel_rfl, by kernel_rfl⟩
/- slices.Equal[[]int,int] -/
def ac41_l0 : AC := .seq
 (.reg [⟨some 14, .bin .lss .int (.tmp 13) (.tmp 12), none⟩])
 (.seq
 (.cond (.tmp 14)
 (.skip)
 (.exit 0))
 (.seq
 (.block 1
 (.seq
 (.reg [⟨some 15, .mov (.tmp 13), none⟩,
 ⟨some 5, .mov (.tmp 15), none⟩])
 (.seq
 (.dreg [⟨some 16, .mov (.tmp 0), none⟩,
 ⟨some 17, .mov (.tmp 5), none⟩,
 ⟨some 18, .iaddr 1 (.tmp 16) (.tmp 17), none⟩,
 ⟨some 19, .load false 1 (.tmp 18), none⟩,
 ⟨some 20, .mov (.tmp 1), none⟩,
 ⟨some 21, .mov (.tmp 5), none⟩,
 ⟨some 22, .iaddr 1 (.tmp 20) (.tmp 21), none⟩,
 ⟨some 23, .load false 1 (.tmp 22), none⟩,
 ⟨some 24, .bin .neq .int (.tmp 19) (.tmp 23), none⟩]
 [[], [], [0, 1], [2], [], [], [4, 5], [6], [3, 7]]
 [[0], [5], [16, 17], [18], [1], [5], [20, 21], [22], [19, 23]])
 (.cond (.tmp 24)
 (.seq
 (.reg [⟨some 4, .mov (.const (.bool false)), none⟩])
 (.ret))
 (.skip)))))
 (.reg [⟨some 25, .bin .add .int (.tmp 13) (.const (.int .i64 1)), none⟩,
 ⟨some 13, .mov (.tmp 25), none⟩])))
def ac41 : AC := .seq
 (.reg [⟨some 4, .mov (.const (.bool false)), none⟩])
 (.seq
 (.seq
 (.reg [⟨some 6, .mov (.tmp 0), none⟩,
 ⟨some 7, .slen false (.tmp 6), none⟩,
 ⟨some 8, .mov (.tmp 1), none⟩,
 ⟨some 9, .slen false (.tmp 8), none⟩,
 ⟨some 10, .bin .neq .int (.tmp 7) (.tmp 9), none⟩])
 (.cond (.tmp 10)
 (.seq
 (.reg [⟨some 4, .mov (.const (.bool false)), none⟩])
 (.ret))
 (.skip)))
 (.seq
 (.seq
 (.reg [⟨some 11, .mov (.tmp 0), none⟩,
 ⟨some 12, .slen false (.tmp 11), none⟩,
 ⟨some 13, .mov (.const (.int .i64 0)), none⟩])
 (.block 0
 (.loop ac41_l0)))
 (.seq
 (.reg [⟨some 4, .mov (.const (.bool true)), none⟩])
 (.ret))))
theorem fn41 : Fun Try.prog 41 26 ac41 [.tmp 4] := ⟨mixedG, Try.f41, _, Try.func41, rfl, by decide +kernel, rfl, by kernel_rfl, by kernel_rfl⟩
/- glossator/glossatorlaw1.greenExample -/
def ac47 : AC := .seq
 (.reg [⟨some 0, .mov (.const (.bool false)), none⟩])
 (.seq
 (.reg [⟨some 7, .build [(.slice none 0 0)] [(0, 1)] [], none⟩,
 ⟨some 8, .call (.func 95) [], none⟩,
 ⟨some 9, .call (.func 52) [(.tmp 7), (.tmp 8)], none⟩,
 ⟨some 6, .mov (.tmp 9), none⟩,
 ⟨some 10, .ext (.tmp 6) 0, none⟩,
 ⟨some 11, .ext (.tmp 6) 1, none⟩,
 ⟨some 12, .ext (.tmp 6) 2, none⟩,
 ⟨some 1, .alloc 75 1 [(.slice none 0 0)], none⟩,
 ⟨none, .store 1 (.tmp 1) (.tmp 10), none⟩,
 ⟨some 2, .mov (.tmp 11), none⟩,
 ⟨some 3, .mov (.tmp 12), none⟩])
 (.seq
 (.reg [⟨some 14, .load true 1 (.tmp 1), none⟩,
 ⟨some 15, .mov (.tmp 2), none⟩,
 ⟨some 16, .call (.func 53) [(.tmp 14), (.tmp 15)], none⟩,
 ⟨some 13, .mov (.tmp 16), none⟩,
 ⟨some 17, .ext (.tmp 13) 0, none⟩,
 ⟨some 18, .ext (.tmp 13) 1, none⟩,
 ⟨some 4, .alloc 78 3 [(.int .i64 0), (.string ⟨#[]⟩), (.slice none 0 0)], none⟩,
 ⟨none, .store 3 (.tmp 4) (.tmp 17), none⟩,
 ⟨some 5, .mov (.tmp 18), none⟩])
 (.seq
 (.dreg [⟨some 19, .mov (.tmp 2), none⟩,
 ⟨some 20, .bin .eql .int (.tmp 19) (.const (.int .i64 1)), none⟩,
 ⟨some 21, .mov (.tmp 20), none⟩,
 ⟨some 22, .faddr 0 (.tmp 1), some (21, true)⟩,
 ⟨some 23, .load false 1 (.tmp 22), some (21, true)⟩,
 ⟨some 24, .slen false (.tmp 23), some (21, true)⟩,
 ⟨some 25, .bin .eql .int (.tmp 24) (.const (.int .i64 2)), some (21, true)⟩,
 ⟨some 26, .pick (.tmp 21) (.tmp 25) (.const (.bool false)), none⟩,
 ⟨some 27, .mov (.tmp 26), none⟩,
 ⟨some 28, .mov (.tmp 3), some (27, true)⟩,
 ⟨some 29, .bin .eql .int (.tmp 28) (.const (.int .i64 0)), some (27, true)⟩,
 ⟨some 30, .pick (.tmp 27) (.tmp 29) (.const (.bool false)), none⟩,
 ⟨some 31, .mov (.tmp 30), none⟩,
 ⟨some 32, .mov (.tmp 5), some (31, true)⟩,
 ⟨some 33, .bin .eql .int (.tmp 32) (.const (.int .i64 0)), some (31, true)⟩,
 ⟨some 34, .pick (.tmp 31) (.tmp 33) (.const (.bool false)), none⟩,
 ⟨some 35, .mov (.tmp 34), none⟩,
 ⟨some 36, .load true 3 (.tmp 4), some (35, true)⟩,
 ⟨some 37, .call (.func 95) [], some (35, true)⟩,
 ⟨some 38, .call (.func 55) [(.tmp 36), (.tmp 37)], some (35, true)⟩,
 ⟨some 39, .pick (.tmp 35) (.tmp 38) (.const (.bool false)), none⟩,
 ⟨some 0, .mov (.tmp 39), none⟩]
 [[], [0], [1], [2], [3, 2], [4, 2], [5, 2], [2, 6], [7, 2], [8], [9, 8], [8, 10], [11, 8], [12], [13, 12], [12, 14], [15, 12], [16], [16, 16], [17, 18, 18, 16], [16, 19], [20, 19, 0, 1, 2, 3, 4, 5, 6, 7, 8, 9, 10, 11, 12, 13, 14, 15, 16, 17, 18, 19, 20]]
 [[2], [19], [20], [1, 21], [22, 21], [23, 21], [24, 21], [21, 25], [26], [3, 27], [28, 27], [27, 29], [30], [5, 31], [32, 31], [31, 33], [34], [4, 35], [35], [36, 37, 35], [35, 38], [39]])
 (.ret))))
theorem fn47 : Fun Try.prog 47 40 ac47 [.tmp 0] := ⟨mixedG, Try.f47, _, Try.func47, rfl, by decide +kernel, rfl, by kernel_rfl, by kernel_rfl⟩
/- glossator/glossatorref1.TreeSize -/
def ac48_l0 : AC := .seq
 (.reg [⟨some 12, .bin .lss .int (.tmp 11) (.tmp 10), none⟩])
 (.seq
 (.cond (.tmp 12)
 (.skip)
 (.exit 0))
 (.seq
 (.block 1
 (.seq
 (.reg [⟨some 13, .iaddr 3 (.tmp 9) (.tmp 11), none⟩,
 ⟨some 14, .load true 3 (.tmp 13), none⟩,
 ⟨some 7, .alloc 78 3 [(.int .i64 0), (.string ⟨#[]⟩), (.slice none 0 0)], none⟩,
 ⟨none, .store 3 (.tmp 7) (.tmp 14), none⟩])
 (.seq
 (.seq
 (.reg [⟨some 15, .mov (.tmp 5), none⟩,
 ⟨some 16, .mov (.tmp 1), none⟩,
 ⟨some 17, .bin .gtr .int (.tmp 15) (.tmp 16), none⟩])
 (.cond (.tmp 17)
 (.exit 0)
 (.skip)))
 (.reg [⟨some 18, .mov (.tmp 5), none⟩,
 ⟨some 19, .load true 3 (.tmp 7), none⟩,
 ⟨some 20, .mov (.tmp 1), none⟩,
 ⟨some 21, .mov (.tmp 5), none⟩,
 ⟨some 22, .bin .sub .int (.tmp 20) (.tmp 21), none⟩,
 ⟨some 23, .call (.func 48) [(.tmp 19), (.tmp 22)], none⟩,
 ⟨some 24, .bin .add .int (.tmp 18) (.tmp 23), none⟩,
 ⟨some 5, .mov (.tmp 24), none⟩]))))
 (.reg [⟨some 25, .bin .add .int (.tmp 11) (.const (.int .i64 1)), none⟩,
 ⟨some 11, .mov (.tmp 25), none⟩])))
def ac48 : AC := .seq
 (.reg [⟨some 2, .box 78 3 (.tmp 0), none⟩,
 ⟨some 4, .mov (.const (.int .i64 0)), none⟩])
 (.seq
 (.reg [⟨some 5, .mov (.const (.int .i64 1)), none⟩])
 (.seq
 (.seq
 (.reg [⟨some 8, .faddr 2 (.tmp 2), none⟩,
 ⟨some 9, .load false 1 (.tmp 8), none⟩,
 ⟨some 10, .slen false (.tmp 9), none⟩,
 ⟨some 11, .mov (.const (.int .i64 0)), none⟩])
 (.block 0
 (.loop ac48_l0)))
 (.seq
 (.reg [⟨some 26, .mov (.tmp 5), none⟩,
 ⟨some 4, .mov (.tmp 26), none⟩])
 (.ret))))
theorem fn48 : Fun Try.prog 48 27 ac48 [.tmp 4] := ⟨mixedG, Try.f48, _, Try.func48, rfl, by decide +kernel, rfl, by kernel_rfl, by kernel_rfl⟩
/- glossator/glossatorref1.TreeDepth -/
def ac49_l0 : AC := .seq
 (.reg [⟨some 10, .bin .lss .int (.tmp 9) (.tmp 8), none⟩])
 (.seq
 (.cond (.tmp 10)
 (.skip)
 (.exit 0))
 (.seq
 (.block 1
 (.seq
 (.reg [⟨some 11, .iaddr 3 (.tmp 7) (.tmp 9), none⟩,
 ⟨some 12, .load true 3 (.tmp 11), none⟩,
 ⟨some 5, .alloc 78 3 [(.int .i64 0), (.string ⟨#[]⟩), (.slice none 0 0)], none⟩,
 ⟨none, .store 3 (.tmp 5) (.tmp 12), none⟩])
 (.reg [⟨some 13, .mov (.tmp 3), none⟩,
 ⟨some 14, .load true 3 (.tmp 5), none⟩,
 ⟨some 15, .call (.func 49) [(.tmp 14)], none⟩,
 ⟨some 16, .minmax false (.tmp 13) (.tmp 15), none⟩,
 ⟨some 3, .mov (.tmp 16), none⟩])))
 (.reg [⟨some 17, .bin .add .int (.tmp 9) (.const (.int .i64 1)), none⟩,
 ⟨some 9, .mov (.tmp 17), none⟩])))
def ac49 : AC := .seq
 (.reg [⟨some 1, .box 78 3 (.tmp 0), none⟩,
 ⟨some 2, .mov (.const (.int .i64 0)), none⟩])
 (.seq
 (.reg [⟨some 3, .mov (.const (.int .i64 0)), none⟩])
 (.seq
 (.seq
 (.reg [⟨some 6, .faddr 2 (.tmp 1), none⟩,
 ⟨some 7, .load false 1 (.tmp 6), none⟩,
 ⟨some 8, .slen false (.tmp 7), none⟩,
 ⟨some 9, .mov (.const (.int .i64 0)), none⟩])
 (.block 0
 (.loop ac49_l0)))
 (.seq
 (.reg [⟨some 18, .mov (.tmp 3), none⟩,
 ⟨some 19, .bin .add .int (.tmp 18) (.const (.int .i64 1)), none⟩,
 ⟨some 2, .mov (.tmp 19), none⟩])
 (.ret))))
theorem fn49 : Fun Try.prog 49 20 ac49 [.tmp 2] := ⟨mixedG, Try.f49, _, Try.func49, rfl, by decide +kernel, rfl, by kernel_rfl, by kernel_rfl⟩
/- glossator/glossatorref1.ArenaError -/
def ac50_l0 : AC := .seq
 (.reg [⟨some 29, .bin .lss .int (.tmp 28) (.tmp 27), none⟩])
 (.seq
 (.cond (.tmp 29)
 (.skip)
 (.exit 2))
 (.seq
 (.block 3
 (.seq
 (.reg [⟨some 30, .iaddr 1 (.tmp 26) (.tmp 28), none⟩,
 ⟨some 31, .load false 1 (.tmp 30), none⟩,
 ⟨some 7, .mov (.tmp 31), none⟩])
 (.seq
 (.seq
 (.reg [⟨some 32, .mov (.tmp 7), none⟩,
 ⟨some 33, .bin .lss .int (.tmp 32) (.const (.int .i64 0)), none⟩,
 ⟨some 34, .mov (.tmp 33), none⟩,
 ⟨some 35, .mov (.tmp 7), some (34, false)⟩,
 ⟨some 36, .mov (.tmp 3), some (34, false)⟩,
 ⟨some 37, .bin .sub .int (.tmp 36) (.const (.int .i64 1)), some (34, false)⟩,
 ⟨some 38, .bin .gtr .int (.tmp 35) (.tmp 37), some (34, false)⟩,
 ⟨some 39, .pick (.tmp 34) (.const (.bool true)) (.tmp 38), none⟩])
 (.cond (.tmp 39)
 (.seq
 (.reg [⟨some 2, .mov (.const (.int .i64 3)), none⟩])
 (.ret))
 (.skip)))
 (.reg [⟨some 40, .mov (.tmp 5), none⟩,
 ⟨some 41, .faddr 0 (.tmp 1), none⟩,
 ⟨some 42, .load false 1 (.tmp 41), none⟩,
 ⟨some 43, .mov (.tmp 7), none⟩,
 ⟨some 44, .iaddr 4 (.tmp 42) (.tmp 43), none⟩,
 ⟨some 45, .faddr 1 (.tmp 44), none⟩,
 ⟨some 46, .load false 1 (.tmp 45), none⟩,
 ⟨some 47, .bin .add .int (.tmp 40) (.tmp 46), none⟩,
 ⟨some 5, .mov (.tmp 47), none⟩]))))
 (.reg [⟨some 48, .bin .add .int (.tmp 28) (.const (.int .i64 1)), none⟩,
 ⟨some 28, .mov (.tmp 48), none⟩])))
def ac50_l1 : AC := .seq
 (.reg [⟨some 80, .bin .lss .int (.tmp 79) (.tmp 78), none⟩])
 (.seq
 (.cond (.tmp 80)
 (.skip)
 (.exit 4))
 (.seq
 (.block 5
 (.seq
 (.reg [⟨some 81, .iaddr 4 (.tmp 77) (.tmp 79), none⟩,
 ⟨some 82, .load true 4 (.tmp 81), none⟩,
 ⟨some 9, .alloc 122 4 [(.int .i64 0), (.int .i64 0), (.string ⟨#[]⟩), (.slice none 0 0)], none⟩,
 ⟨none, .store 4 (.tmp 9) (.tmp 82), none⟩])
 (.seq
 (.reg [⟨some 83, .load true 4 (.tmp 9), none⟩,
 ⟨some 84, .load true 4 (.tmp 4), none⟩,
 ⟨some 85, .call (.func 96) [(.tmp 83), (.tmp 84)], none⟩])
 (.cond (.tmp 85)
 (.seq
 (.reg [⟨some 2, .mov (.const (.int .i64 3)), none⟩])
 (.ret))
 (.skip)))))
 (.reg [⟨some 86, .bin .add .int (.tmp 79) (.const (.int .i64 1)), none⟩,
 ⟨some 79, .mov (.tmp 86), none⟩])))
def ac50_l2 : AC := .seq
 (.reg [⟨some 18, .bin .lss .int (.tmp 17) (.tmp 16), none⟩])
 (.seq
 (.cond (.tmp 18)
 (.skip)
 (.exit 0))
 (.seq
 (.block 1
 (.seq
 (.reg [⟨some 19, .mov (.tmp 17), none⟩,
 ⟨some 20, .iaddr 4 (.tmp 15) (.tmp 17), none⟩,
 ⟨some 21, .load true 4 (.tmp 20), none⟩,
 ⟨some 4, .alloc 122 4 [(.int .i64 0), (.int .i64 0), (.string ⟨#[]⟩), (.slice none 0 0)], none⟩,
 ⟨some 3, .mov (.tmp 19), none⟩,
 ⟨none, .store 4 (.tmp 4) (.tmp 21), none⟩])
 (.seq
 (.reg [⟨some 22, .faddr 2 (.tmp 4), none⟩,
 ⟨some 23, .load false 1 (.tmp 22), none⟩,
 ⟨some 24, .slen true (.tmp 23), none⟩,
 ⟨some 5, .mov (.tmp 24), none⟩])
 (.seq
 (.seq
 (.reg [⟨some 25, .faddr 3 (.tmp 4), none⟩,
 ⟨some 26, .load false 1 (.tmp 25), none⟩,
 ⟨some 27, .slen false (.tmp 26), none⟩,
 ⟨some 28, .mov (.const (.int .i64 0)), none⟩])
 (.block 2
 (.loop ac50_l0)))
 (.seq
 (.seq
 (.reg [⟨some 49, .mov (.tmp 5), none⟩,
 ⟨some 50, .faddr 1 (.tmp 4), none⟩,
 ⟨some 51, .load false 1 (.tmp 50), none⟩,
 ⟨some 52, .bin .neq .int (.tmp 49) (.tmp 51), none⟩,
 ⟨some 53, .mov (.tmp 52), none⟩,
 ⟨some 54, .faddr 0 (.tmp 4), some (53, false)⟩,
 ⟨some 55, .load false 1 (.tmp 54), some (53, false)⟩,
 ⟨some 56, .bin .geq .int (.tmp 55) (.const (.int .i64 100)), some (53, false)⟩,
 ⟨some 57, .mov (.tmp 56), some (53, false)⟩,
 ⟨some 58, .faddr 3 (.tmp 4), some (57, true)⟩,
 ⟨some 59, .load false 1 (.tmp 58), some (57, true)⟩,
 ⟨some 60, .slen false (.tmp 59), some (57, true)⟩,
 ⟨some 61, .bin .gtr .int (.tmp 60) (.const (.int .i64 0)), some (57, true)⟩,
 ⟨some 62, .pick (.tmp 57) (.tmp 61) (.const (.bool false)), some (53, false)⟩,
 ⟨some 63, .pick (.tmp 53) (.const (.bool true)) (.tmp 62), none⟩,
 ⟨some 64, .mov (.tmp 63), none⟩,
 ⟨some 65, .faddr 0 (.tmp 4), some (64, false)⟩,
 ⟨some 66, .load false 1 (.tmp 65), some (64, false)⟩,
 ⟨some 67, .bin .lss .int (.tmp 66) (.const (.int .i64 100)), some (64, false)⟩,
 ⟨some 68, .mov (.tmp 67), some (64, false)⟩,
 ⟨some 69, .faddr 2 (.tmp 4), some (68, true)⟩,
 ⟨some 70, .load false 1 (.tmp 69), some (68, true)⟩,
 ⟨some 71, .bin .neq .str (.tmp 70) (.const (.string ⟨#[]⟩)), some (68, true)⟩,
 ⟨some 72, .pick (.tmp 68) (.tmp 71) (.const (.bool false)), some (64, false)⟩,
 ⟨some 73, .pick (.tmp 64) (.const (.bool true)) (.tmp 72), none⟩])
 (.cond (.tmp 73)
 (.seq
 (.reg [⟨some 2, .mov (.const (.int .i64 3)), none⟩])
 (.ret))
 (.skip)))
 (.seq
 (.reg [⟨some 74, .faddr 0 (.tmp 1), none⟩,
 ⟨some 75, .load false 1 (.tmp 74), none⟩,
 ⟨some 76, .mov (.tmp 3), none⟩,
 ⟨some 77, .slice 4 (.tmp 75) none (some (.tmp 76)) none, none⟩,
 ⟨some 78, .slen false (.tmp 77), none⟩,
 ⟨some 79, .mov (.const (.int .i64 0)), none⟩])
 (.block 4
 (.loop ac50_l1))))))))
 (.reg [⟨some 87, .bin .add .int (.tmp 17) (.const (.int .i64 1)), none⟩,
 ⟨some 17, .mov (.tmp 87), none⟩])))
def ac50 : AC := .seq
 (.reg [⟨some 1, .box 75 1 (.tmp 0), none⟩,
 ⟨some 2, .mov (.const (.int .i64 0)), none⟩])
 (.seq
 (.seq
 (.reg [⟨some 10, .faddr 0 (.tmp 1), none⟩,
 ⟨some 11, .load false 1 (.tmp 10), none⟩,
 ⟨some 12, .slen false (.tmp 11), none⟩,
 ⟨some 13, .bin .gtr .int (.tmp 12) (.const (.int .i64 4000)), none⟩])
 (.cond (.tmp 13)
 (.seq
 (.reg [⟨some 2, .mov (.const (.int .i64 2)), none⟩])
 (.ret))
 (.skip)))
 (.seq
 (.seq
 (.reg [⟨some 14, .faddr 0 (.tmp 1), none⟩,
 ⟨some 15, .load false 1 (.tmp 14), none⟩,
 ⟨some 16, .slen false (.tmp 15), none⟩,
 ⟨some 17, .mov (.const (.int .i64 0)), none⟩])
 (.block 0
 (.loop ac50_l2)))
 (.seq
 (.reg [⟨some 2, .mov (.const (.int .i64 0)), none⟩])
 (.ret))))
theorem fn50 : Fun Try.prog 50 88 ac50 [.tmp 2] := ⟨mixedG, Try.f50, _, Try.func50, rfl, by decide +kernel, rfl, by kernel_rfl, by kernel_rfl⟩
/- glossator/greentree.Validate -/
def ac51_l0 : AC := .seq
 (.reg [⟨some 12, .bin .lss .int (.tmp 11) (.tmp 10), none⟩])
 (.seq
 (.cond (.tmp 12)
 (.skip)
 (.exit 0))
 (.seq
 (.block 1
 (.seq
 (.reg [⟨some 13, .mov (.tmp 11), none⟩,
 ⟨some 3, .mov (.tmp 13), none⟩])
 (.seq
 (.reg [⟨some 14, .faddr 0 (.tmp 1), none⟩,
 ⟨some 15, .load false 1 (.tmp 14), none⟩,
 ⟨some 16, .mov (.tmp 3), none⟩,
 ⟨some 17, .call (.func 97) [(.tmp 15), (.tmp 16)], none⟩,
 ⟨some 18, .un .not (.tmp 17), none⟩])
 (.cond (.tmp 18)
 (.seq
 (.reg [⟨some 2, .mov (.const (.int .i64 3)), none⟩])
 (.ret))
 (.skip)))))
 (.reg [⟨some 19, .bin .add .int (.tmp 11) (.const (.int .i64 1)), none⟩,
 ⟨some 11, .mov (.tmp 19), none⟩])))
def ac51 : AC := .seq
 (.reg [⟨some 1, .box 75 1 (.tmp 0), none⟩,
 ⟨some 2, .mov (.const (.int .i64 0)), none⟩])
 (.seq
 (.seq
 (.reg [⟨some 4, .faddr 0 (.tmp 1), none⟩,
 ⟨some 5, .load false 1 (.tmp 4), none⟩,
 ⟨some 6, .slen false (.tmp 5), none⟩,
 ⟨some 7, .bin .gtr .int (.tmp 6) (.const (.int .i64 4000)), none⟩])
 (.cond (.tmp 7)
 (.seq
 (.reg [⟨some 2, .mov (.const (.int .i64 2)), none⟩])
 (.ret))
 (.skip)))
 (.seq
 (.seq
 (.reg [⟨some 8, .faddr 0 (.tmp 1), none⟩,
 ⟨some 9, .load false 1 (.tmp 8), none⟩,
 ⟨some 10, .slen false (.tmp 9), none⟩,
 ⟨some 11, .mov (.const (.int .i64 0)), none⟩])
 (.block 0
 (.loop ac51_l0)))
 (.seq
 (.reg [⟨some 2, .mov (.const (.int .i64 0)), none⟩])
 (.ret))))
theorem fn51 : Fun Try.prog 51 20 ac51 [.tmp 2] := ⟨mixedG, Try.f51, _, Try.func51, rfl, by decide +kernel, rfl, by kernel_rfl, by kernel_rfl⟩
/- glossator/greentree.Insert -/
def ac52 : AC := .seq
 (.reg [⟨some 2, .box 75 1 (.tmp 0), none⟩,
 ⟨some 3, .box 78 3 (.tmp 1), none⟩,
 ⟨some 4, .alloc 75 1 [(.slice none 0 0)], none⟩,
 ⟨some 5, .mov (.const (.int .i64 0)), none⟩,
 ⟨some 6, .mov (.const (.int .i64 0)), none⟩])
 (.seq
 (.seq
 (.reg [⟨some 11, .load true 1 (.tmp 2), none⟩,
 ⟨some 12, .call (.func 51) [(.tmp 11)], none⟩,
 ⟨some 7, .mov (.tmp 12), none⟩])
 (.seq
 (.reg [⟨some 13, .mov (.tmp 7), none⟩,
 ⟨some 14, .bin .neq .int (.tmp 13) (.const (.int .i64 0)), none⟩])
 (.cond (.tmp 14)
 (.seq
 (.reg [⟨some 15, .build [(.slice none 0 0)] [(0, 1)] [], none⟩,
 ⟨some 16, .mov (.tmp 7), none⟩,
 ⟨none, .store 1 (.tmp 4) (.tmp 15), none⟩,
 ⟨some 5, .mov (.const (.int .i64 0)), none⟩,
 ⟨some 6, .mov (.tmp 16), none⟩])
 (.ret))
 (.skip))))
 (.seq
 (.reg [⟨some 8, .alloc 3 1 [(.int .i64 0)], none⟩,
 ⟨none, .store 1 (.tmp 8) (.const (.int .i64 4000)), none⟩])
 (.seq
 (.block 0
 (.seq
 (.reg [⟨some 18, .load true 3 (.tmp 3), none⟩,
 ⟨some 19, .call (.func 98) [(.tmp 18), (.const (.int .i64 1)), (.tmp 8)], none⟩,
 ⟨some 17, .mov (.tmp 19), none⟩])
 (.cond (.tmp 17)
 (.seq
 (.reg [⟨some 20, .build [(.slice none 0 0)] [(0, 1)] [], none⟩,
 ⟨none, .store 1 (.tmp 4) (.tmp 20), none⟩,
 ⟨some 5, .mov (.const (.int .i64 0)), none⟩,
 ⟨some 6, .mov (.const (.int .i64 2)), none⟩])
 (.ret))
 (.seq
 (.reg [⟨some 22, .load true 3 (.tmp 3), none⟩,
 ⟨some 23, .call (.func 99) [(.tmp 22)], none⟩,
 ⟨some 24, .un .not (.tmp 23), none⟩,
 ⟨some 21, .mov (.tmp 24), none⟩])
 (.cond (.tmp 21)
 (.seq
 (.reg [⟨some 25, .build [(.slice none 0 0)] [(0, 1)] [], none⟩,
 ⟨none, .store 1 (.tmp 4) (.tmp 25), none⟩,
 ⟨some 5, .mov (.const (.int .i64 0)), none⟩,
 ⟨some 6, .mov (.const (.int .i64 3)), none⟩])
 (.ret))
 (.skip))))))
 (.seq
 (.reg [⟨some 26, .load true 1 (.tmp 2), none⟩,
 ⟨some 27, .call (.func 100) [(.tmp 26)], none⟩,
 ⟨some 9, .alloc 75 1 [(.slice none 0 0)], none⟩,
 ⟨none, .store 1 (.tmp 9) (.tmp 27), none⟩])
 (.seq
 (.reg [⟨some 28, .load true 3 (.tmp 3), none⟩,
 ⟨some 29, .call (.func 101) [(.tmp 9), (.tmp 28)], none⟩,
 ⟨some 10, .mov (.tmp 29), none⟩])
 (.seq
 (.seq
 (.reg [⟨some 30, .faddr 0 (.tmp 9), none⟩,
 ⟨some 31, .load false 1 (.tmp 30), none⟩,
 ⟨some 32, .slen false (.tmp 31), none⟩,
 ⟨some 33, .bin .gtr .int (.tmp 32) (.const (.int .i64 4000)), none⟩])
 (.cond (.tmp 33)
 (.seq
 (.reg [⟨some 34, .build [(.slice none 0 0)] [(0, 1)] [], none⟩,
 ⟨none, .store 1 (.tmp 4) (.tmp 34), none⟩,
 ⟨some 5, .mov (.const (.int .i64 0)), none⟩,
 ⟨some 6, .mov (.const (.int .i64 2)), none⟩])
 (.ret))
 (.skip)))
 (.seq
 (.reg [⟨some 35, .load true 1 (.tmp 9), none⟩,
 ⟨some 36, .mov (.tmp 10), none⟩,
 ⟨none, .store 1 (.tmp 4) (.tmp 35), none⟩,
 ⟨some 5, .mov (.tmp 36), none⟩,
 ⟨some 6, .mov (.const (.int .i64 0)), none⟩])
 (.ret))))))))
theorem fn52 : Fun Try.prog 52 37 ac52 [.cell 4 1 true, .tmp 5, .tmp 6] := ⟨mixedG, Try.f52, _, Try.func52, rfl, by decide +kernel, rfl, by kernel_rfl, by kernel_rfl⟩
/- glossator/greentree.Tree -/
def ac53 : AC := .seq
 (.reg [⟨some 2, .box 75 1 (.tmp 0), none⟩,
 ⟨some 4, .alloc 78 3 [(.int .i64 0), (.string ⟨#[]⟩), (.slice none 0 0)], none⟩,
 ⟨some 5, .mov (.const (.int .i64 0)), none⟩])
 (.seq
 (.seq
 (.reg [⟨some 9, .load true 1 (.tmp 2), none⟩,
 ⟨some 10, .call (.func 51) [(.tmp 9)], none⟩,
 ⟨some 6, .mov (.tmp 10), none⟩])
 (.seq
 (.reg [⟨some 11, .mov (.tmp 6), none⟩,
 ⟨some 12, .bin .neq .int (.tmp 11) (.const (.int .i64 0)), none⟩])
 (.cond (.tmp 12)
 (.seq
 (.reg [⟨some 13, .build [(.int .i64 0), (.string ⟨#[]⟩), (.slice none 0 0)] [(0, 1), (1, 1), (2, 1)] [], none⟩,
 ⟨some 14, .mov (.tmp 6), none⟩,
 ⟨none, .store 3 (.tmp 4) (.tmp 13), none⟩,
 ⟨some 5, .mov (.tmp 14), none⟩])
 (.ret))
 (.skip))))
 (.seq
 (.seq
 (.reg [⟨some 15, .mov (.tmp 1), none⟩,
 ⟨some 16, .bin .lss .int (.tmp 15) (.const (.int .i64 0)), none⟩,
 ⟨some 17, .mov (.tmp 16), none⟩,
 ⟨some 18, .mov (.tmp 1), some (17, false)⟩,
 ⟨some 19, .faddr 0 (.tmp 2), some (17, false)⟩,
 ⟨some 20, .load false 1 (.tmp 19), some (17, false)⟩,
 ⟨some 21, .slen false (.tmp 20), some (17, false)⟩,
 ⟨some 22, .bin .geq .int (.tmp 18) (.tmp 21), some (17, false)⟩,
 ⟨some 23, .pick (.tmp 17) (.const (.bool true)) (.tmp 22), none⟩])
 (.cond (.tmp 23)
 (.seq
 (.reg [⟨some 24, .build [(.int .i64 0), (.string ⟨#[]⟩), (.slice none 0 0)] [(0, 1), (1, 1), (2, 1)] [], none⟩,
 ⟨none, .store 3 (.tmp 4) (.tmp 24), none⟩,
 ⟨some 5, .mov (.const (.int .i64 5)), none⟩])
 (.ret))
 (.skip)))
 (.seq
 (.reg [⟨some 7, .alloc 3 1 [(.int .i64 0)], none⟩,
 ⟨none, .store 1 (.tmp 7) (.const (.int .i64 4000)), none⟩])
 (.seq
 (.reg [⟨some 25, .load true 1 (.tmp 2), none⟩,
 ⟨some 26, .mov (.tmp 1), none⟩,
 ⟨some 27, .call (.func 102) [(.tmp 25), (.tmp 26), (.tmp 7)], none⟩,
 ⟨some 8, .alloc 78 3 [(.int .i64 0), (.string ⟨#[]⟩), (.slice none 0 0)], none⟩,
 ⟨none, .store 3 (.tmp 8) (.tmp 27), none⟩])
 (.seq
 (.seq
 (.reg [⟨some 28, .load false 1 (.tmp 7), none⟩,
 ⟨some 29, .bin .lss .int (.tmp 28) (.const (.int .i64 0)), none⟩])
 (.cond (.tmp 29)
 (.seq
 (.reg [⟨some 30, .build [(.int .i64 0), (.string ⟨#[]⟩), (.slice none 0 0)] [(0, 1), (1, 1), (2, 1)] [], none⟩,
 ⟨none, .store 3 (.tmp 4) (.tmp 30), none⟩,
 ⟨some 5, .mov (.const (.int .i64 2)), none⟩])
 (.ret))
 (.skip)))
 (.seq
 (.reg [⟨some 31, .load true 3 (.tmp 8), none⟩,
 ⟨none, .store 3 (.tmp 4) (.tmp 31), none⟩,
 ⟨some 5, .mov (.const (.int .i64 0)), none⟩])
 (.ret)))))))
theorem fn53 : Fun Try.prog 53 32 ac53 [.cell 4 3 true, .tmp 5] := ⟨mixedG, Try.f53, _, Try.func53, rfl, by decide +kernel, rfl, by kernel_rfl, by kernel_rfl⟩
/- glossator/glossatorlaw1.sameArena -/
def ac54_l0 : AC := .seq
 (.reg [⟨some 19, .bin .lss .int (.tmp 18) (.tmp 17), none⟩])
 (.seq
 (.cond (.tmp 19)
 (.skip)
 (.exit 0))
 (.seq
 (.block 1
 (.seq
 (.reg [⟨some 20, .mov (.tmp 18), none⟩,
 ⟨some 21, .iaddr 4 (.tmp 16) (.tmp 18), none⟩,
 ⟨some 22, .load true 4 (.tmp 21), none⟩,
 ⟨some 6, .alloc 122 4 [(.int .i64 0), (.int .i64 0), (.string ⟨#[]⟩), (.slice none 0 0)], none⟩,
 ⟨some 5, .mov (.tmp 20), none⟩,
 ⟨none, .store 4 (.tmp 6) (.tmp 22), none⟩])
 (.seq
 (.reg [⟨some 23, .faddr 0 (.tmp 3), none⟩,
 ⟨some 24, .load false 1 (.tmp 23), none⟩,
 ⟨some 25, .mov (.tmp 5), none⟩,
 ⟨some 26, .iaddr 4 (.tmp 24) (.tmp 25), none⟩,
 ⟨some 27, .load true 4 (.tmp 26), none⟩,
 ⟨some 7, .alloc 122 4 [(.int .i64 0), (.int .i64 0), (.string ⟨#[]⟩), (.slice none 0 0)], none⟩,
 ⟨none, .store 4 (.tmp 7) (.tmp 27), none⟩])
 (.seq
 (.reg [⟨some 28, .faddr 0 (.tmp 6), none⟩,
 ⟨some 29, .load false 1 (.tmp 28), none⟩,
 ⟨some 30, .faddr 0 (.tmp 7), none⟩,
 ⟨some 31, .load false 1 (.tmp 30), none⟩,
 ⟨some 32, .bin .neq .int (.tmp 29) (.tmp 31), none⟩,
 ⟨some 33, .mov (.tmp 32), none⟩,
 ⟨some 34, .faddr 1 (.tmp 6), some (33, false)⟩,
 ⟨some 35, .load false 1 (.tmp 34), some (33, false)⟩,
 ⟨some 36, .faddr 1 (.tmp 7), some (33, false)⟩,
 ⟨some 37, .load false 1 (.tmp 36), some (33, false)⟩,
 ⟨some 38, .bin .neq .int (.tmp 35) (.tmp 37), some (33, false)⟩,
 ⟨some 39, .pick (.tmp 33) (.const (.bool true)) (.tmp 38), none⟩,
 ⟨some 40, .mov (.tmp 39), none⟩,
 ⟨some 41, .faddr 2 (.tmp 6), some (40, false)⟩,
 ⟨some 42, .load false 1 (.tmp 41), some (40, false)⟩,
 ⟨some 43, .faddr 2 (.tmp 7), some (40, false)⟩,
 ⟨some 44, .load false 1 (.tmp 43), some (40, false)⟩,
 ⟨some 45, .bin .neq .str (.tmp 42) (.tmp 44), some (40, false)⟩,
 ⟨some 46, .pick (.tmp 40) (.const (.bool true)) (.tmp 45), none⟩,
 ⟨some 47, .mov (.tmp 46), none⟩,
 ⟨some 48, .faddr 3 (.tmp 6), some (47, false)⟩,
 ⟨some 49, .load false 1 (.tmp 48), some (47, false)⟩,
 ⟨some 50, .faddr 3 (.tmp 7), some (47, false)⟩,
 ⟨some 51, .load false 1 (.tmp 50), some (47, false)⟩,
 ⟨some 52, .call (.func 103) [(.tmp 49), (.tmp 51)], some (47, false)⟩,
 ⟨some 53, .un .not (.tmp 52), some (47, false)⟩,
 ⟨some 54, .pick (.tmp 47) (.const (.bool true)) (.tmp 53), none⟩])
 (.cond (.tmp 54)
 (.seq
 (.reg [⟨some 4, .mov (.const (.bool false)), none⟩])
 (.ret))
 (.skip))))))
 (.reg [⟨some 55, .bin .add .int (.tmp 18) (.const (.int .i64 1)), none⟩,
 ⟨some 18, .mov (.tmp 55), none⟩])))
def ac54 : AC := .seq
 (.reg [⟨some 2, .box 75 1 (.tmp 0), none⟩,
 ⟨some 3, .box 75 1 (.tmp 1), none⟩,
 ⟨some 4, .mov (.const (.bool false)), none⟩])
 (.seq
 (.seq
 (.reg [⟨some 8, .faddr 0 (.tmp 2), none⟩,
 ⟨some 9, .load false 1 (.tmp 8), none⟩,
 ⟨some 10, .slen false (.tmp 9), none⟩,
 ⟨some 11, .faddr 0 (.tmp 3), none⟩,
 ⟨some 12, .load false 1 (.tmp 11), none⟩,
 ⟨some 13, .slen false (.tmp 12), none⟩,
 ⟨some 14, .bin .neq .int (.tmp 10) (.tmp 13), none⟩])
 (.cond (.tmp 14)
 (.seq
 (.reg [⟨some 4, .mov (.const (.bool false)), none⟩])
 (.ret))
 (.skip)))
 (.seq
 (.seq
 (.reg [⟨some 15, .faddr 0 (.tmp 2), none⟩,
 ⟨some 16, .load false 1 (.tmp 15), none⟩,
 ⟨some 17, .slen false (.tmp 16), none⟩,
 ⟨some 18, .mov (.const (.int .i64 0)), none⟩])
 (.block 0
 (.loop ac54_l0)))
 (.seq
 (.reg [⟨some 4, .mov (.const (.bool true)), none⟩])
 (.ret))))
theorem fn54 : Fun Try.prog 54 56 ac54 [.tmp 4] := ⟨mixedG, Try.f54, _, Try.func54, rfl, by decide +kernel, rfl, by kernel_rfl, by kernel_rfl⟩
/- glossator/glossatorlaw1.sameTree -/
def ac55_l0 : AC := .seq
 (.reg [⟨some 31, .bin .lss .int (.tmp 30) (.tmp 29), none⟩])
 (.seq
 (.cond (.tmp 31)
 (.skip)
 (.exit 0))
 (.seq
 (.block 1
 (.seq
 (.reg [⟨some 32, .mov (.tmp 30), none⟩,
 ⟨some 5, .mov (.tmp 32), none⟩])
 (.seq
 (.dreg [⟨some 33, .faddr 2 (.tmp 2), none⟩,
 ⟨some 34, .load false 1 (.tmp 33), none⟩,
 ⟨some 35, .mov (.tmp 5), none⟩,
 ⟨some 36, .iaddr 3 (.tmp 34) (.tmp 35), none⟩,
 ⟨some 37, .load true 3 (.tmp 36), none⟩,
 ⟨some 38, .faddr 2 (.tmp 3), none⟩,
 ⟨some 39, .load false 1 (.tmp 38), none⟩,
 ⟨some 40, .mov (.tmp 5), none⟩,
 ⟨some 41, .iaddr 3 (.tmp 39) (.tmp 40), none⟩,
 ⟨some 42, .load true 3 (.tmp 41), none⟩,
 ⟨some 43, .call (.func 55) [(.tmp 37), (.tmp 42)], none⟩,
 ⟨some 44, .un .not (.tmp 43), none⟩]
 [[], [0], [], [1, 2], [3], [], [5], [], [6, 7], [8], [4, 9], [10]]
 [[2], [33], [5], [34, 35], [36], [3], [38], [5], [39, 40], [41], [37, 42], [43]])
 (.cond (.tmp 44)
 (.seq
 (.reg [⟨some 4, .mov (.const (.bool false)), none⟩])
 (.ret))
 (.skip)))))
 (.reg [⟨some 45, .bin .add .int (.tmp 30) (.const (.int .i64 1)), none⟩,
 ⟨some 30, .mov (.tmp 45), none⟩])))
def ac55 : AC := .seq
 (.reg [⟨some 2, .box 78 3 (.tmp 0), none⟩,
 ⟨some 3, .box 78 3 (.tmp 1), none⟩,
 ⟨some 4, .mov (.const (.bool false)), none⟩])
 (.seq
 (.seq
 (.reg [⟨some 6, .faddr 0 (.tmp 2), none⟩,
 ⟨some 7, .load false 1 (.tmp 6), none⟩,
 ⟨some 8, .faddr 0 (.tmp 3), none⟩,
 ⟨some 9, .load false 1 (.tmp 8), none⟩,
 ⟨some 10, .bin .neq .int (.tmp 7) (.tmp 9), none⟩,
 ⟨some 11, .mov (.tmp 10), none⟩,
 ⟨some 12, .faddr 1 (.tmp 2), some (11, false)⟩,
 ⟨some 13, .load false 1 (.tmp 12), some (11, false)⟩,
 ⟨some 14, .faddr 1 (.tmp 3), some (11, false)⟩,
 ⟨some 15, .load false 1 (.tmp 14), some (11, false)⟩,
 ⟨some 16, .bin .neq .str (.tmp 13) (.tmp 15), some (11, false)⟩,
 ⟨some 17, .pick (.tmp 11) (.const (.bool true)) (.tmp 16), none⟩,
 ⟨some 18, .mov (.tmp 17), none⟩,
 ⟨some 19, .faddr 2 (.tmp 2), some (18, false)⟩,
 ⟨some 20, .load false 1 (.tmp 19), some (18, false)⟩,
 ⟨some 21, .slen false (.tmp 20), some (18, false)⟩,
 ⟨some 22, .faddr 2 (.tmp 3), some (18, false)⟩,
 ⟨some 23, .load false 1 (.tmp 22), some (18, false)⟩,
 ⟨some 24, .slen false (.tmp 23), some (18, false)⟩,
 ⟨some 25, .bin .neq .int (.tmp 21) (.tmp 24), some (18, false)⟩,
 ⟨some 26, .pick (.tmp 18) (.const (.bool true)) (.tmp 25), none⟩])
 (.cond (.tmp 26)
 (.seq
 (.reg [⟨some 4, .mov (.const (.bool false)), none⟩])
 (.ret))
 (.skip)))
 (.seq
 (.seq
 (.reg [⟨some 27, .faddr 2 (.tmp 2), none⟩,
 ⟨some 28, .load false 1 (.tmp 27), none⟩,
 ⟨some 29, .slen false (.tmp 28), none⟩,
 ⟨some 30, .mov (.const (.int .i64 0)), none⟩])
 (.block 0
 (.loop ac55_l0)))
 (.seq
 (.reg [⟨some 4, .mov (.const (.bool true)), none⟩])
 (.ret))))
theorem fn55 : Fun Try.prog 55 46 ac55 [.tmp 4] := ⟨mixedG, Try.f55, _, Try.func55, rfl, by decide +kernel, rfl, by kernel_rfl, by kernel_rfl⟩
/- glossator/glossatorref1.TreeValid -/
def ac56_l0 : AC := .seq
 (.reg [⟨some 28, .bin .lss .int (.tmp 27) (.tmp 26), none⟩])
 (.seq
 (.cond (.tmp 28)
 (.skip)
 (.exit 0))
 (.seq
 (.block 1
 (.seq
 (.reg [⟨some 29, .iaddr 3 (.tmp 25) (.tmp 27), none⟩,
 ⟨some 30, .load true 3 (.tmp 29), none⟩,
 ⟨some 4, .alloc 78 3 [(.int .i64 0), (.string ⟨#[]⟩), (.slice none 0 0)], none⟩,
 ⟨none, .store 3 (.tmp 4) (.tmp 30), none⟩])
 (.seq
 (.reg [⟨some 31, .load true 3 (.tmp 4), none⟩,
 ⟨some 32, .call (.func 56) [(.tmp 31)], none⟩,
 ⟨some 33, .un .not (.tmp 32), none⟩])
 (.cond (.tmp 33)
 (.seq
 (.reg [⟨some 2, .mov (.const (.bool false)), none⟩])
 (.ret))
 (.skip)))))
 (.reg [⟨some 34, .bin .add .int (.tmp 27) (.const (.int .i64 1)), none⟩,
 ⟨some 27, .mov (.tmp 34), none⟩])))
def ac56 : AC := .seq
 (.reg [⟨some 1, .box 78 3 (.tmp 0), none⟩,
 ⟨some 2, .mov (.const (.bool false)), none⟩])
 (.seq
 (.seq
 (.reg [⟨some 5, .faddr 0 (.tmp 1), none⟩,
 ⟨some 6, .load false 1 (.tmp 5), none⟩,
 ⟨some 7, .bin .lss .int (.tmp 6) (.const (.int .i64 100)), none⟩,
 ⟨some 8, .mov (.tmp 7), none⟩,
 ⟨some 9, .faddr 1 (.tmp 1), some (8, true)⟩,
 ⟨some 10, .load false 1 (.tmp 9), some (8, true)⟩,
 ⟨some 11, .bin .neq .str (.tmp 10) (.const (.string ⟨#[]⟩)), some (8, true)⟩,
 ⟨some 12, .pick (.tmp 8) (.tmp 11) (.const (.bool false)), none⟩,
 ⟨some 13, .mov (.tmp 12), none⟩,
 ⟨some 14, .faddr 0 (.tmp 1), some (13, false)⟩,
 ⟨some 15, .load false 1 (.tmp 14), some (13, false)⟩,
 ⟨some 16, .bin .geq .int (.tmp 15) (.const (.int .i64 100)), some (13, false)⟩,
 ⟨some 17, .mov (.tmp 16), some (13, false)⟩,
 ⟨some 18, .faddr 2 (.tmp 1), some (17, true)⟩,
 ⟨some 19, .load false 1 (.tmp 18), some (17, true)⟩,
 ⟨some 20, .slen false (.tmp 19), some (17, true)⟩,
 ⟨some 21, .bin .gtr .int (.tmp 20) (.const (.int .i64 0)), some (17, true)⟩,
 ⟨some 22, .pick (.tmp 17) (.tmp 21) (.const (.bool false)), some (13, false)⟩,
 ⟨some 23, .pick (.tmp 13) (.const (.bool true)) (.tmp 22), none⟩])
 (.cond (.tmp 23)
 (.seq
 (.reg [⟨some 2, .mov (.const (.bool false)), none⟩])
 (.ret))
 (.skip)))
 (.seq
 (.seq
 (.reg [⟨some 24, .faddr 2 (.tmp 1), none⟩,
 ⟨some 25, .load false 1 (.tmp 24), none⟩,
 ⟨some 26, .slen false (.tmp 25), none⟩,
 ⟨some 27, .mov (.const (.int .i64 0)), none⟩])
 (.block 0
 (.loop ac56_l0)))
 (.seq
 (.reg [⟨some 2, .mov (.const (.bool true)), none⟩])
 (.ret))))
theorem fn56 : Fun Try.prog 56 35 ac56 [.tmp 2] := ⟨mixedG, Try.f56, _, Try.func56, rfl, by decide +kernel, rfl, by kernel_rfl, by kernel_rfl⟩
/- glossator/glossatorref1.ArenaInsert -/
def ac57_l0 : AC := .seq
 (.reg [⟨some 24, .bin .lss .int (.tmp 23) (.tmp 22), none⟩])
 (.seq
 (.cond (.tmp 24)
 (.skip)
 (.exit 0))
 (.seq
 (.block 1
 (.seq
 (.reg [⟨some 25, .iaddr 3 (.tmp 21) (.tmp 23), none⟩,
 ⟨some 26, .load true 3 (.tmp 25), none⟩,
 ⟨some 8, .alloc 78 3 [(.int .i64 0), (.string ⟨#[]⟩), (.slice none 0 0)], none⟩,
 ⟨none, .store 3 (.tmp 8) (.tmp 26), none⟩])
 (.seq
 (.reg [⟨some 9, .mov (.const (.int .i64 0)), none⟩])
 (.seq
 (.reg [⟨some 28, .load true 1 (.tmp 2), none⟩,
 ⟨some 29, .load true 3 (.tmp 8), none⟩,
 ⟨some 30, .call (.func 57) [(.tmp 28), (.tmp 29)], none⟩,
 ⟨some 27, .mov (.tmp 30), none⟩,
 ⟨some 31, .ext (.tmp 27) 0, none⟩,
 ⟨some 32, .ext (.tmp 27) 1, none⟩,
 ⟨none, .store 1 (.tmp 2) (.tmp 31), none⟩,
 ⟨some 9, .mov (.tmp 32), none⟩])
 (.seq
 (.reg [⟨some 33, .faddr 3 (.tmp 6), none⟩,
 ⟨some 34, .load false 1 (.tmp 33), none⟩,
 ⟨some 35, .mov (.tmp 9), none⟩,
 ⟨some 36, .bslice 3 1 [(.int .i64 0)] 1 [(0, (.tmp 35))], none⟩,
 ⟨some 37, .app 3 1 (.tmp 34) (.tmp 36), none⟩,
 ⟨some 38, .faddr 3 (.tmp 6), none⟩,
 ⟨none, .store 1 (.tmp 38) (.tmp 37), none⟩])
 (.dreg [⟨some 39, .faddr 1 (.tmp 6), none⟩,
 ⟨some 40, .load false 1 (.tmp 39), none⟩,
 ⟨some 41, .faddr 0 (.tmp 2), none⟩,
 ⟨some 42, .load false 1 (.tmp 41), none⟩,
 ⟨some 43, .mov (.tmp 9), none⟩,
 ⟨some 44, .iaddr 4 (.tmp 42) (.tmp 43), none⟩,
 ⟨some 45, .faddr 1 (.tmp 44), none⟩,
 ⟨some 46, .load false 1 (.tmp 45), none⟩,
 ⟨some 47, .bin .add .int (.tmp 40) (.tmp 46), none⟩,
 ⟨some 48, .faddr 1 (.tmp 6), none⟩,
 ⟨none, .store 1 (.tmp 48) (.tmp 47), none⟩]
 [[], [0], [], [2], [], [3, 4], [5], [6], [1, 7], [0, 1, 2, 3, 4, 5, 6, 7, 8], [9, 8, 0, 1, 2, 3, 4, 5, 6, 7, 8]]
 [[6], [39], [2], [41], [9], [42, 43], [44], [45], [40, 46], [6], [48, 47]]))))))
 (.reg [⟨some 49, .bin .add .int (.tmp 23) (.const (.int .i64 1)), none⟩,
 ⟨some 23, .mov (.tmp 49), none⟩])))
def ac57_l1 : AC := .seq
 (.reg [⟨some 54, .bin .lss .int (.tmp 53) (.tmp 52), none⟩])
 (.seq
 (.cond (.tmp 54)
 (.skip)
 (.exit 2))
 (.seq
 (.block 3
 (.seq
 (.reg [⟨some 55, .mov (.tmp 53), none⟩,
 ⟨some 56, .iaddr 4 (.tmp 51) (.tmp 53), none⟩,
 ⟨some 57, .load true 4 (.tmp 56), none⟩,
 ⟨some 11, .alloc 122 4 [(.int .i64 0), (.int .i64 0), (.string ⟨#[]⟩), (.slice none 0 0)], none⟩,
 ⟨some 10, .mov (.tmp 55), none⟩,
 ⟨none, .store 4 (.tmp 11) (.tmp 57), none⟩])
 (.seq
 (.reg [⟨some 58, .load true 4 (.tmp 11), none⟩,
 ⟨some 59, .load true 4 (.tmp 6), none⟩,
 ⟨some 60, .call (.func 96) [(.tmp 58), (.tmp 59)], none⟩])
 (.cond (.tmp 60)
 (.seq
 (.reg [⟨some 61, .load true 1 (.tmp 2), none⟩,
 ⟨some 62, .mov (.tmp 10), none⟩,
 ⟨none, .store 1 (.tmp 4) (.tmp 61), none⟩,
 ⟨some 5, .mov (.tmp 62), none⟩])
 (.ret))
 (.skip)))))
 (.reg [⟨some 63, .bin .add .int (.tmp 53) (.const (.int .i64 1)), none⟩,
 ⟨some 53, .mov (.tmp 63), none⟩])))
def ac57 : AC := .seq
 (.reg [⟨some 2, .box 75 1 (.tmp 0), none⟩,
 ⟨some 3, .box 78 3 (.tmp 1), none⟩,
 ⟨some 4, .alloc 75 1 [(.slice none 0 0)], none⟩,
 ⟨some 5, .mov (.const (.int .i64 0)), none⟩])
 (.seq
 (.reg [⟨some 12, .faddr 0 (.tmp 3), none⟩,
 ⟨some 13, .load false 1 (.tmp 12), none⟩,
 ⟨some 14, .faddr 1 (.tmp 3), none⟩,
 ⟨some 15, .load false 1 (.tmp 14), none⟩,
 ⟨some 16, .slen true (.tmp 15), none⟩,
 ⟨some 17, .faddr 1 (.tmp 3), none⟩,
 ⟨some 18, .load false 1 (.tmp 17), none⟩,
 ⟨some 19, .build [(.int .i64 0), (.int .i64 0), (.string ⟨#[]⟩), (.slice none 0 0)] [(0, 1), (1, 1), (2, 1), (3, 1)] [(0, (.tmp 13)), (1, (.tmp 16)), (2, (.tmp 18))], none⟩,
 ⟨some 6, .alloc 122 4 [(.int .i64 0), (.int .i64 0), (.string ⟨#[]⟩), (.slice none 0 0)], none⟩,
 ⟨none, .store 4 (.tmp 6) (.tmp 19), none⟩])
 (.seq
 (.seq
 (.reg [⟨some 20, .faddr 2 (.tmp 3), none⟩,
 ⟨some 21, .load false 1 (.tmp 20), none⟩,
 ⟨some 22, .slen false (.tmp 21), none⟩,
 ⟨some 23, .mov (.const (.int .i64 0)), none⟩])
 (.block 0
 (.loop ac57_l0)))
 (.seq
 (.seq
 (.reg [⟨some 50, .faddr 0 (.tmp 2), none⟩,
 ⟨some 51, .load false 1 (.tmp 50), none⟩,
 ⟨some 52, .slen false (.tmp 51), none⟩,
 ⟨some 53, .mov (.const (.int .i64 0)), none⟩])
 (.block 2
 (.loop ac57_l1)))
 (.seq
 (.dreg [⟨some 64, .faddr 0 (.tmp 2), none⟩,
 ⟨some 65, .load false 1 (.tmp 64), none⟩,
 ⟨some 66, .call (.func 104) [(.tmp 65)], none⟩,
 ⟨some 67, .load true 4 (.tmp 6), none⟩,
 ⟨some 68, .bslice 122 4 [(.int .i64 0), (.int .i64 0), (.string ⟨#[]⟩), (.slice none 0 0)] 1 [(0, (.tmp 67))], none⟩,
 ⟨some 69, .app 122 4 (.tmp 66) (.tmp 68), none⟩,
 ⟨some 70, .build [(.slice none 0 0)] [(0, 1)] [(0, (.tmp 69))], none⟩,
 ⟨some 71, .faddr 0 (.tmp 2), none⟩,
 ⟨some 72, .load false 1 (.tmp 71), none⟩,
 ⟨some 73, .slen false (.tmp 72), none⟩,
 ⟨none, .store 1 (.tmp 4) (.tmp 70), none⟩,
 ⟨some 5, .mov (.tmp 73), none⟩]
 [[], [0], [1], [], [3], [2, 4, 2], [5], [], [7], [8], [6, 5, 0, 1, 2, 3, 4, 5, 6], [9, 10, 0, 1, 2, 3, 4, 5, 6, 7, 8, 9, 10]]
 [[2], [64], [65], [6], [67], [66, 68], [69], [2], [71], [72], [4, 70], [73]])
 (.ret)))))
theorem fn57 : Fun Try.prog 57 74 ac57 [.cell 4 1 true, .tmp 5] := ⟨mixedG, Try.f57, _, Try.func57, rfl, by decide +kernel, rfl, by kernel_rfl, by kernel_rfl⟩
/- glossator/glossatorref1.ArenaTreeSize -/
def ac58_l0 : AC := .seq
 (.reg [⟨some 29, .bin .lss .int (.tmp 28) (.tmp 27), none⟩])
 (.seq
 (.cond (.tmp 29)
 (.skip)
 (.exit 2))
 (.seq
 (.block 3
 (.seq
 (.reg [⟨some 30, .iaddr 1 (.tmp 26) (.tmp 28), none⟩,
 ⟨some 31, .load false 1 (.tmp 30), none⟩,
 ⟨some 9, .mov (.tmp 31), none⟩])
 (.dreg [⟨some 32, .mov (.tmp 5), none⟩,
 ⟨some 33, .mov (.tmp 6), none⟩,
 ⟨some 34, .mov (.tmp 5), none⟩,
 ⟨some 35, .mov (.tmp 6), none⟩,
 ⟨some 36, .iaddr 1 (.tmp 34) (.tmp 35), none⟩,
 ⟨some 37, .load false 1 (.tmp 36), none⟩,
 ⟨some 38, .mov (.tmp 5), none⟩,
 ⟨some 39, .mov (.tmp 9), none⟩,
 ⟨some 40, .iaddr 1 (.tmp 38) (.tmp 39), none⟩,
 ⟨some 41, .load false 1 (.tmp 40), none⟩,
 ⟨some 42, .bin .add .int (.tmp 37) (.tmp 41), none⟩,
 ⟨some 43, .minmax true (.tmp 42) (.const (.int .i64 4001)), none⟩,
 ⟨some 44, .iaddr 1 (.tmp 32) (.tmp 33), none⟩,
 ⟨none, .store 1 (.tmp 44) (.tmp 43), none⟩]
 [[], [], [], [], [2, 3], [4], [], [], [6, 7], [8], [5, 9], [10], [0, 1, 0, 1, 2, 3, 4, 5, 6, 7, 8, 9, 10, 11], [12, 11, 0, 1, 2, 3, 4, 5, 6, 7, 8, 9, 10, 11]]
 [[5], [6], [5], [6], [34, 35], [36], [5], [9], [38, 39], [40], [37, 41], [42], [32, 33], [44, 43]])))
 (.reg [⟨some 45, .bin .add .int (.tmp 28) (.const (.int .i64 1)), none⟩,
 ⟨some 28, .mov (.tmp 45), none⟩])))
def ac58_l1 : AC := .seq
 (.reg [⟨some 18, .bin .lss .int (.tmp 17) (.tmp 16), none⟩])
 (.seq
 (.cond (.tmp 18)
 (.skip)
 (.exit 0))
 (.seq
 (.block 1
 (.seq
 (.reg [⟨some 19, .mov (.tmp 17), none⟩,
 ⟨some 20, .iaddr 4 (.tmp 15) (.tmp 17), none⟩,
 ⟨some 21, .load true 4 (.tmp 20), none⟩,
 ⟨some 7, .alloc 122 4 [(.int .i64 0), (.int .i64 0), (.string ⟨#[]⟩), (.slice none 0 0)], none⟩,
 ⟨some 6, .mov (.tmp 19), none⟩,
 ⟨none, .store 4 (.tmp 7) (.tmp 21), none⟩])
 (.seq
 (.reg [⟨some 22, .mov (.tmp 5), none⟩,
 ⟨some 23, .mov (.tmp 6), none⟩,
 ⟨some 24, .iaddr 1 (.tmp 22) (.tmp 23), none⟩,
 ⟨none, .store 1 (.tmp 24) (.const (.int .i64 1)), none⟩])
 (.seq
 (.reg [⟨some 25, .faddr 3 (.tmp 7), none⟩,
 ⟨some 26, .load false 1 (.tmp 25), none⟩,
 ⟨some 27, .slen false (.tmp 26), none⟩,
 ⟨some 28, .mov (.const (.int .i64 0)), none⟩])
 (.block 2
 (.loop ac58_l0))))))
 (.reg [⟨some 46, .bin .add .int (.tmp 17) (.const (.int .i64 1)), none⟩,
 ⟨some 17, .mov (.tmp 46), none⟩])))
def ac58 : AC := .seq
 (.reg [⟨some 2, .box 75 1 (.tmp 0), none⟩,
 ⟨some 4, .mov (.const (.int .i64 0)), none⟩])
 (.seq
 (.reg [⟨some 10, .faddr 0 (.tmp 2), none⟩,
 ⟨some 11, .load false 1 (.tmp 10), none⟩,
 ⟨some 12, .slen false (.tmp 11), none⟩,
 ⟨some 13, .mkslice 3 1 [(.int .i64 0)] (.tmp 12) (.tmp 12), none⟩,
 ⟨some 5, .mov (.tmp 13), none⟩])
 (.seq
 (.seq
 (.reg [⟨some 14, .faddr 0 (.tmp 2), none⟩,
 ⟨some 15, .load false 1 (.tmp 14), none⟩,
 ⟨some 16, .slen false (.tmp 15), none⟩,
 ⟨some 17, .mov (.const (.int .i64 0)), none⟩])
 (.block 0
 (.loop ac58_l1)))
 (.seq
 (.reg [⟨some 47, .mov (.tmp 5), none⟩,
 ⟨some 48, .mov (.tmp 1), none⟩,
 ⟨some 49, .iaddr 1 (.tmp 47) (.tmp 48), none⟩,
 ⟨some 50, .load false 1 (.tmp 49), none⟩,
 ⟨some 4, .mov (.tmp 50), none⟩])
 (.ret))))
theorem fn58 : Fun Try.prog 58 51 ac58 [.tmp 4] := ⟨mixedG, Try.f58, _, Try.func58, rfl, by decide +kernel, rfl, by kernel_rfl, by kernel_rfl⟩
/- glossator/glossatorref1.ArenaTree -/
def ac59_l0 : AC := .seq
 (.reg [⟨some 23, .bin .lss .int (.tmp 22) (.tmp 21), none⟩])
 (.seq
 (.cond (.tmp 23)
 (.skip)
 (.exit 0))
 (.seq
 (.block 1
 (.seq
 (.reg [⟨some 24, .iaddr 1 (.tmp 20) (.tmp 22), none⟩,
 ⟨some 25, .load false 1 (.tmp 24), none⟩,
 ⟨some 8, .mov (.tmp 25), none⟩])
 (.dreg [⟨some 26, .faddr 2 (.tmp 6), none⟩,
 ⟨some 27, .load false 1 (.tmp 26), none⟩,
 ⟨some 28, .load true 1 (.tmp 2), none⟩,
 ⟨some 29, .mov (.tmp 8), none⟩,
 ⟨some 30, .call (.func 59) [(.tmp 28), (.tmp 29)], none⟩,
 ⟨some 31, .bslice 78 3 [(.int .i64 0), (.string ⟨#[]⟩), (.slice none 0 0)] 1 [(0, (.tmp 30))], none⟩,
 ⟨some 32, .app 78 3 (.tmp 27) (.tmp 31), none⟩,
 ⟨some 33, .faddr 2 (.tmp 6), none⟩,
 ⟨none, .store 1 (.tmp 33) (.tmp 32), none⟩]
 [[], [0], [], [], [2, 3], [4], [1, 5, 4], [0, 1, 2, 3, 4, 5, 6], [7, 6, 6, 0, 1, 2, 3, 4, 5, 6]]
 [[6], [26], [2], [8], [28, 29], [30], [27, 31], [6], [33, 32]])))
 (.reg [⟨some 34, .bin .add .int (.tmp 22) (.const (.int .i64 1)), none⟩,
 ⟨some 22, .mov (.tmp 34), none⟩])))
def ac59 : AC := .seq
 (.reg [⟨some 2, .box 75 1 (.tmp 0), none⟩,
 ⟨some 4, .alloc 78 3 [(.int .i64 0), (.string ⟨#[]⟩), (.slice none 0 0)], none⟩])
 (.seq
 (.reg [⟨some 9, .faddr 0 (.tmp 2), none⟩,
 ⟨some 10, .load false 1 (.tmp 9), none⟩,
 ⟨some 11, .mov (.tmp 1), none⟩,
 ⟨some 12, .iaddr 4 (.tmp 10) (.tmp 11), none⟩,
 ⟨some 13, .load true 4 (.tmp 12), none⟩,
 ⟨some 5, .alloc 122 4 [(.int .i64 0), (.int .i64 0), (.string ⟨#[]⟩), (.slice none 0 0)], none⟩,
 ⟨none, .store 4 (.tmp 5) (.tmp 13), none⟩])
 (.seq
 (.reg [⟨some 14, .faddr 0 (.tmp 5), none⟩,
 ⟨some 15, .load false 1 (.tmp 14), none⟩,
 ⟨some 16, .faddr 2 (.tmp 5), none⟩,
 ⟨some 17, .load false 1 (.tmp 16), none⟩,
 ⟨some 18, .build [(.int .i64 0), (.string ⟨#[]⟩), (.slice none 0 0)] [(0, 1), (1, 1), (2, 1)] [(0, (.tmp 15)), (1, (.tmp 17))], none⟩,
 ⟨some 6, .alloc 78 3 [(.int .i64 0), (.string ⟨#[]⟩), (.slice none 0 0)], none⟩,
 ⟨none, .store 3 (.tmp 6) (.tmp 18), none⟩])
 (.seq
 (.seq
 (.reg [⟨some 19, .faddr 3 (.tmp 5), none⟩,
 ⟨some 20, .load false 1 (.tmp 19), none⟩,
 ⟨some 21, .slen false (.tmp 20), none⟩,
 ⟨some 22, .mov (.const (.int .i64 0)), none⟩])
 (.block 0
 (.loop ac59_l0)))
 (.seq
 (.reg [⟨some 35, .load true 3 (.tmp 6), none⟩,
 ⟨none, .store 3 (.tmp 4) (.tmp 35), none⟩])
 (.ret)))))
theorem fn59 : Fun Try.prog 59 36 ac59 [.cell 4 3 true] := ⟨mixedG, Try.f59, _, Try.func59, rfl, by decide +kernel, rfl, by kernel_rfl, by kernel_rfl⟩
/- glossator/glossatorlaw1.pair -/
def ac95 : AC := .seq
 (.reg [⟨some 0, .alloc 78 3 [(.int .i64 0), (.string ⟨#[]⟩), (.slice none 0 0)], none⟩])
 (.seq
 (.reg [⟨some 2, .build [(.int .i64 0), (.string ⟨#[]⟩), (.slice none 0 0)] [(0, 1), (1, 1), (2, 1)] [(0, (.const (.int .i64 103))), (1, (.const (.string ⟨#[97]⟩)))], none⟩,
 ⟨some 1, .alloc 78 3 [(.int .i64 0), (.string ⟨#[]⟩), (.slice none 0 0)], none⟩,
 ⟨none, .store 3 (.tmp 1) (.tmp 2), none⟩])
 (.seq
 (.reg [⟨some 3, .load true 3 (.tmp 1), none⟩,
 ⟨some 4, .load true 3 (.tmp 1), none⟩,
 ⟨some 5, .bslice 78 3 [(.int .i64 0), (.string ⟨#[]⟩), (.slice none 0 0)] 2 [(0, (.tmp 3)), (1, (.tmp 4))], none⟩,
 ⟨some 6, .build [(.int .i64 0), (.string ⟨#[]⟩), (.slice none 0 0)] [(0, 1), (1, 1), (2, 1)] [(0, (.const (.int .i64 17))), (2, (.tmp 5))], none⟩,
 ⟨none, .store 3 (.tmp 0) (.tmp 6), none⟩])
 (.ret)))
theorem fn95 : Fun Try.prog 95 7 ac95 [.cell 0 3 true] := ⟨mixedG, Try.f95, _, Try.func95, rfl, by decide +kernel, rfl, by kernel_rfl, by kernel_rfl⟩
/- glossator/glossatorref1.sameGreen -/
def ac96 : AC := .seq
 (.reg [⟨some 2, .box 122 4 (.tmp 0), none⟩,
 ⟨some 3, .box 122 4 (.tmp 1), none⟩,
 ⟨some 4, .mov (.const (.bool false)), none⟩])
 (.seq
 (.reg [⟨some 5, .faddr 0 (.tmp 2), none⟩,
 ⟨some 6, .load false 1 (.tmp 5), none⟩,
 ⟨some 7, .faddr 0 (.tmp 3), none⟩,
 ⟨some 8, .load false 1 (.tmp 7), none⟩,
 ⟨some 9, .bin .eql .int (.tmp 6) (.tmp 8), none⟩,
 ⟨some 10, .mov (.tmp 9), none⟩,
 ⟨some 11, .faddr 1 (.tmp 2), some (10, true)⟩,
 ⟨some 12, .load false 1 (.tmp 11), some (10, true)⟩,
 ⟨some 13, .faddr 1 (.tmp 3), some (10, true)⟩,
 ⟨some 14, .load false 1 (.tmp 13), some (10, true)⟩,
 ⟨some 15, .bin .eql .int (.tmp 12) (.tmp 14), some (10, true)⟩,
 ⟨some 16, .pick (.tmp 10) (.tmp 15) (.const (.bool false)), none⟩,
 ⟨some 17, .mov (.tmp 16), none⟩,
 ⟨some 18, .faddr 2 (.tmp 2), some (17, true)⟩,
 ⟨some 19, .load false 1 (.tmp 18), some (17, true)⟩,
 ⟨some 20, .faddr 2 (.tmp 3), some (17, true)⟩,
 ⟨some 21, .load false 1 (.tmp 20), some (17, true)⟩,
 ⟨some 22, .bin .eql .str (.tmp 19) (.tmp 21), some (17, true)⟩,
 ⟨some 23, .pick (.tmp 17) (.tmp 22) (.const (.bool false)), none⟩,
 ⟨some 24, .mov (.tmp 23), none⟩,
 ⟨some 25, .faddr 3 (.tmp 2), some (24, true)⟩,
 ⟨some 26, .load false 1 (.tmp 25), some (24, true)⟩,
 ⟨some 27, .faddr 3 (.tmp 3), some (24, true)⟩,
 ⟨some 28, .load false 1 (.tmp 27), some (24, true)⟩,
 ⟨some 29, .call (.func 103) [(.tmp 26), (.tmp 28)], some (24, true)⟩,
 ⟨some 30, .pick (.tmp 24) (.tmp 29) (.const (.bool false)), none⟩,
 ⟨some 4, .mov (.tmp 30), none⟩])
 (.ret))
theorem fn96 : Fun Try.prog 96 31 ac96 [.tmp 4] := ⟨mixedG, Try.f96, _, Try.func96, rfl, by decide +kernel, rfl, by kernel_rfl, by kernel_rfl⟩
/- glossator/greentree.isValid -/
def ac97_l0 : AC := .seq
 (.reg [⟨some 21, .bin .lss .int (.tmp 20) (.tmp 19), none⟩])
 (.seq
 (.cond (.tmp 21)
 (.skip)
 (.exit 0))
 (.seq
 (.block 1
 (.seq
 (.reg [⟨some 22, .iaddr 1 (.tmp 18) (.tmp 20), none⟩,
 ⟨some 23, .load false 1 (.tmp 22), none⟩,
 ⟨some 8, .mov (.tmp 23), none⟩])
 (.seq
 (.seq
 (.reg [⟨some 24, .mov (.tmp 8), none⟩,
 ⟨some 25, .bin .lss .int (.tmp 24) (.const (.int .i64 0)), none⟩,
 ⟨some 26, .mov (.tmp 25), none⟩,
 ⟨some 27, .mov (.tmp 8), some (26, false)⟩,
 ⟨some 28, .mov (.tmp 1), some (26, false)⟩,
 ⟨some 29, .bin .geq .int (.tmp 27) (.tmp 28), some (26, false)⟩,
 ⟨some 30, .pick (.tmp 26) (.const (.bool true)) (.tmp 29), none⟩])
 (.cond (.tmp 30)
 (.seq
 (.reg [⟨some 4, .mov (.const (.bool false)), none⟩])
 (.ret))
 (.skip)))
 (.reg [⟨some 31, .mov (.tmp 6), none⟩,
 ⟨some 32, .mov (.tmp 0), none⟩,
 ⟨some 33, .mov (.tmp 8), none⟩,
 ⟨some 34, .iaddr 4 (.tmp 32) (.tmp 33), none⟩,
 ⟨some 35, .faddr 1 (.tmp 34), none⟩,
 ⟨some 36, .load false 1 (.tmp 35), none⟩,
 ⟨some 37, .bin .add .int (.tmp 31) (.tmp 36), none⟩,
 ⟨some 6, .mov (.tmp 37), none⟩]))))
 (.reg [⟨some 38, .bin .add .int (.tmp 20) (.const (.int .i64 1)), none⟩,
 ⟨some 20, .mov (.tmp 38), none⟩])))
def ac97 : AC := .seq
 (.reg [⟨some 4, .mov (.const (.bool false)), none⟩])
 (.seq
 (.reg [⟨some 10, .mov (.tmp 0), none⟩,
 ⟨some 11, .mov (.tmp 1), none⟩,
 ⟨some 12, .iaddr 4 (.tmp 10) (.tmp 11), none⟩,
 ⟨some 13, .load true 4 (.tmp 12), none⟩,
 ⟨some 5, .alloc 122 4 [(.int .i64 0), (.int .i64 0), (.string ⟨#[]⟩), (.slice none 0 0)], none⟩,
 ⟨none, .store 4 (.tmp 5) (.tmp 13), none⟩])
 (.seq
 (.reg [⟨some 14, .faddr 2 (.tmp 5), none⟩,
 ⟨some 15, .load false 1 (.tmp 14), none⟩,
 ⟨some 16, .slen true (.tmp 15), none⟩,
 ⟨some 6, .mov (.tmp 16), none⟩])
 (.seq
 (.seq
 (.reg [⟨some 17, .faddr 3 (.tmp 5), none⟩,
 ⟨some 18, .load false 1 (.tmp 17), none⟩,
 ⟨some 19, .slen false (.tmp 18), none⟩,
 ⟨some 20, .mov (.const (.int .i64 0)), none⟩])
 (.block 0
 (.loop ac97_l0)))
 (.seq
 (.reg [⟨some 39, .faddr 0 (.tmp 5), none⟩,
 ⟨some 40, .load false 1 (.tmp 39), none⟩,
 ⟨some 41, .bin .geq .int (.tmp 40) (.const (.int .i64 100)), none⟩,
 ⟨some 9, .mov (.tmp 41), none⟩])
 (.seq
 (.seq
 (.reg [⟨some 42, .faddr 1 (.tmp 5), none⟩,
 ⟨some 43, .load false 1 (.tmp 42), none⟩,
 ⟨some 44, .mov (.tmp 6), none⟩,
 ⟨some 45, .bin .neq .int (.tmp 43) (.tmp 44), none⟩,
 ⟨some 46, .mov (.tmp 45), none⟩,
 ⟨some 47, .mov (.tmp 9), some (46, false)⟩,
 ⟨some 48, .mov (.tmp 47), some (46, false)⟩,
 ⟨some 49, .faddr 3 (.tmp 5), some (48, true)⟩,
 ⟨some 50, .load false 1 (.tmp 49), some (48, true)⟩,
 ⟨some 51, .slen false (.tmp 50), some (48, true)⟩,
 ⟨some 52, .bin .gtr .int (.tmp 51) (.const (.int .i64 0)), some (48, true)⟩,
 ⟨some 53, .pick (.tmp 48) (.tmp 52) (.const (.bool false)), some (46, false)⟩,
 ⟨some 54, .pick (.tmp 46) (.const (.bool true)) (.tmp 53), none⟩,
 ⟨some 55, .mov (.tmp 54), none⟩,
 ⟨some 56, .mov (.tmp 9), some (55, false)⟩,
 ⟨some 57, .un .not (.tmp 56), some (55, false)⟩,
 ⟨some 58, .mov (.tmp 57), some (55, false)⟩,
 ⟨some 59, .faddr 2 (.tmp 5), some (58, true)⟩,
 ⟨some 60, .load false 1 (.tmp 59), some (58, true)⟩,
 ⟨some 61, .bin .neq .str (.tmp 60) (.const (.string ⟨#[]⟩)), some (58, true)⟩,
 ⟨some 62, .pick (.tmp 58) (.tmp 61) (.const (.bool false)), some (55, false)⟩,
 ⟨some 63, .pick (.tmp 55) (.const (.bool true)) (.tmp 62), none⟩])
 (.cond (.tmp 63)
 (.seq
 (.reg [⟨some 4, .mov (.const (.bool false)), none⟩])
 (.ret))
 (.skip)))
 (.seq
 (.reg [⟨some 64, .mov (.tmp 0), none⟩,
 ⟨some 65, .mov (.tmp 1), none⟩,
 ⟨some 66, .slice 4 (.tmp 64) none (some (.tmp 65)) none, none⟩,
 ⟨some 67, .mkfn 114 [(.tmp 5)], none⟩,
 ⟨some 68, .call (.func 113) [(.tmp 66), (.tmp 67)], none⟩,
 ⟨some 69, .un .not (.tmp 68), none⟩,
 ⟨some 4, .mov (.tmp 69), none⟩])
 (.ret)))))))
theorem fn97 : Fun Try.prog 97 70 ac97 [.tmp 4] := ⟨mixedG, Try.f97, _, Try.func97, rfl, by decide +kernel, rfl, by kernel_rfl, by kernel_rfl⟩
/- glossator/greentree.exceeds -/
def ac98 : AC := .seq
 (.reg [⟨some 3, .box 78 3 (.tmp 0), none⟩,
 ⟨some 4, .box 3 1 (.tmp 1), none⟩,
 ⟨some 5, .box 126 1 (.tmp 2), none⟩,
 ⟨some 6, .mov (.const (.bool false)), none⟩])
 (.seq
 (.seq
 (.reg [⟨some 7, .load false 1 (.tmp 5), none⟩,
 ⟨some 8, .nilc (.tmp 7), none⟩,
 ⟨some 9, .load false 1 (.tmp 8), none⟩,
 ⟨some 10, .bin .sub .int (.tmp 9) (.const (.int .i64 1)), none⟩,
 ⟨some 11, .nilc (.tmp 7), none⟩,
 ⟨none, .store 1 (.tmp 11) (.tmp 10), none⟩])
 (.seq
 (.reg [⟨some 12, .load false 1 (.tmp 5), none⟩,
 ⟨some 13, .nilc (.tmp 12), none⟩,
 ⟨some 14, .load false 1 (.tmp 13), none⟩,
 ⟨some 15, .bin .lss .int (.tmp 14) (.const (.int .i64 0)), none⟩,
 ⟨some 16, .mov (.tmp 15), none⟩,
 ⟨some 17, .load false 1 (.tmp 4), some (16, false)⟩,
 ⟨some 18, .bin .gtr .int (.tmp 17) (.const (.int .i64 200)), some (16, false)⟩,
 ⟨some 19, .pick (.tmp 16) (.const (.bool true)) (.tmp 18), none⟩])
 (.cond (.tmp 19)
 (.seq
 (.reg [⟨some 6, .mov (.const (.bool true)), none⟩])
 (.ret))
 (.skip))))
 (.seq
 (.reg [⟨some 20, .faddr 2 (.tmp 3), none⟩,
 ⟨some 21, .load false 1 (.tmp 20), none⟩,
 ⟨some 22, .mkfn 117 [(.tmp 4), (.tmp 5)], none⟩,
 ⟨some 23, .call (.func 116) [(.tmp 21), (.tmp 22)], none⟩,
 ⟨some 6, .mov (.tmp 23), none⟩])
 (.ret)))
theorem fn98 : Fun Try.prog 98 24 ac98 [.tmp 6] := ⟨mixedG, Try.f98, _, Try.func98, rfl, by decide +kernel, rfl, by kernel_rfl, by kernel_rfl⟩
/- glossator/greentree.isTree -/
def ac99 : AC := .seq
 (.reg [⟨some 1, .box 78 3 (.tmp 0), none⟩,
 ⟨some 2, .mov (.const (.bool false)), none⟩])
 (.seq
 (.reg [⟨some 4, .faddr 0 (.tmp 1), none⟩,
 ⟨some 5, .load false 1 (.tmp 4), none⟩,
 ⟨some 6, .bin .geq .int (.tmp 5) (.const (.int .i64 100)), none⟩,
 ⟨some 3, .mov (.tmp 6), none⟩])
 (.seq
 (.seq
 (.reg [⟨some 7, .mov (.tmp 3), none⟩,
 ⟨some 8, .mov (.tmp 7), none⟩,
 ⟨some 9, .faddr 2 (.tmp 1), some (8, true)⟩,
 ⟨some 10, .load false 1 (.tmp 9), some (8, true)⟩,
 ⟨some 11, .slen false (.tmp 10), some (8, true)⟩,
 ⟨some 12, .bin .gtr .int (.tmp 11) (.const (.int .i64 0)), some (8, true)⟩,
 ⟨some 13, .pick (.tmp 8) (.tmp 12) (.const (.bool false)), none⟩,
 ⟨some 14, .mov (.tmp 13), none⟩,
 ⟨some 15, .mov (.tmp 3), some (14, false)⟩,
 ⟨some 16, .un .not (.tmp 15), some (14, false)⟩,
 ⟨some 17, .mov (.tmp 16), some (14, false)⟩,
 ⟨some 18, .faddr 1 (.tmp 1), some (17, true)⟩,
 ⟨some 19, .load false 1 (.tmp 18), some (17, true)⟩,
 ⟨some 20, .bin .neq .str (.tmp 19) (.const (.string ⟨#[]⟩)), some (17, true)⟩,
 ⟨some 21, .pick (.tmp 17) (.tmp 20) (.const (.bool false)), some (14, false)⟩,
 ⟨some 22, .pick (.tmp 14) (.const (.bool true)) (.tmp 21), none⟩])
 (.cond (.tmp 22)
 (.seq
 (.reg [⟨some 2, .mov (.const (.bool false)), none⟩])
 (.ret))
 (.skip)))
 (.seq
 (.reg [⟨some 23, .faddr 2 (.tmp 1), none⟩,
 ⟨some 24, .load false 1 (.tmp 23), none⟩,
 ⟨some 25, .call (.func 116) [(.tmp 24), (.func 118)], none⟩,
 ⟨some 26, .un .not (.tmp 25), none⟩,
 ⟨some 2, .mov (.tmp 26), none⟩])
 (.ret))))
theorem fn99 : Fun Try.prog 99 27 ac99 [.tmp 2] := ⟨mixedG, Try.f99, _, Try.func99, rfl, by decide +kernel, rfl, by kernel_rfl, by kernel_rfl⟩
/- glossator/greentree.clone -/
def ac100_l0 : AC := .seq
 (.reg [⟨some 13, .bin .lss .int (.tmp 12) (.tmp 11), none⟩])
 (.seq
 (.cond (.tmp 13)
 (.skip)
 (.exit 0))
 (.seq
 (.block 1
 (.seq
 (.reg [⟨some 14, .mov (.tmp 12), none⟩,
 ⟨some 4, .mov (.tmp 14), none⟩])
 (.dreg [⟨some 15, .faddr 0 (.tmp 3), none⟩,
 ⟨some 16, .load false 1 (.tmp 15), none⟩,
 ⟨some 17, .mov (.tmp 4), none⟩,
 ⟨some 18, .faddr 0 (.tmp 3), none⟩,
 ⟨some 19, .load false 1 (.tmp 18), none⟩,
 ⟨some 20, .mov (.tmp 4), none⟩,
 ⟨some 21, .iaddr 4 (.tmp 19) (.tmp 20), none⟩,
 ⟨some 22, .faddr 3 (.tmp 21), none⟩,
 ⟨some 23, .load false 1 (.tmp 22), none⟩,
 ⟨some 24, .call (.func 120) [(.tmp 23)], none⟩,
 ⟨some 25, .iaddr 4 (.tmp 16) (.tmp 17), none⟩,
 ⟨some 26, .faddr 3 (.tmp 25), none⟩,
 ⟨none, .store 1 (.tmp 26) (.tmp 24), none⟩]
 [[], [0], [], [], [3], [], [4, 5], [6], [7], [8], [1, 2, 0, 1, 2, 3, 4, 5, 6, 7, 8, 9], [10, 0, 1, 2, 3, 4, 5, 6, 7, 8, 9], [11, 9, 9, 0, 1, 2, 3, 4, 5, 6, 7, 8, 9]]
 [[3], [15], [4], [3], [18], [4], [19, 20], [21], [22], [23], [16, 17], [25], [26, 24]])))
 (.reg [⟨some 27, .bin .add .int (.tmp 12) (.const (.int .i64 1)), none⟩,
 ⟨some 12, .mov (.tmp 27), none⟩])))
def ac100 : AC := .seq
 (.reg [⟨some 1, .box 75 1 (.tmp 0), none⟩,
 ⟨some 2, .alloc 75 1 [(.slice none 0 0)], none⟩])
 (.seq
 (.reg [⟨some 5, .faddr 0 (.tmp 1), none⟩,
 ⟨some 6, .load false 1 (.tmp 5), none⟩,
 ⟨some 7, .call (.func 119) [(.tmp 6)], none⟩,
 ⟨some 8, .build [(.slice none 0 0)] [(0, 1)] [(0, (.tmp 7))], none⟩,
 ⟨some 3, .alloc 75 1 [(.slice none 0 0)], none⟩,
 ⟨none, .store 1 (.tmp 3) (.tmp 8), none⟩])
 (.seq
 (.seq
 (.reg [⟨some 9, .faddr 0 (.tmp 3), none⟩,
 ⟨some 10, .load false 1 (.tmp 9), none⟩,
 ⟨some 11, .slen false (.tmp 10), none⟩,
 ⟨some 12, .mov (.const (.int .i64 0)), none⟩])
 (.block 0
 (.loop ac100_l0)))
 (.seq
 (.reg [⟨some 28, .load true 1 (.tmp 3), none⟩,
 ⟨none, .store 1 (.tmp 2) (.tmp 28), none⟩])
 (.ret))))
theorem fn100 : Fun Try.prog 100 29 ac100 [.cell 2 1 true] := ⟨mixedG, Try.f100, _, Try.func100, rfl, by decide +kernel, rfl, by kernel_rfl, by kernel_rfl⟩
/- glossator/greentree.insert -/
def ac101_l0 : AC := .seq
 (.reg [⟨some 22, .bin .lss .int (.tmp 21) (.tmp 20), none⟩])
 (.seq
 (.cond (.tmp 22)
 (.skip)
 (.exit 0))
 (.seq
 (.block 1
 (.seq
 (.reg [⟨some 23, .iaddr 3 (.tmp 19) (.tmp 21), none⟩,
 ⟨some 24, .load true 3 (.tmp 23), none⟩,
 ⟨some 7, .alloc 78 3 [(.int .i64 0), (.string ⟨#[]⟩), (.slice none 0 0)], none⟩,
 ⟨none, .store 3 (.tmp 7) (.tmp 24), none⟩])
 (.seq
 (.reg [⟨some 25, .mov (.tmp 0), none⟩,
 ⟨some 26, .load true 3 (.tmp 7), none⟩,
 ⟨some 27, .call (.func 101) [(.tmp 25), (.tmp 26)], none⟩,
 ⟨some 8, .mov (.tmp 27), none⟩])
 (.seq
 (.reg [⟨some 28, .faddr 3 (.tmp 5), none⟩,
 ⟨some 29, .load false 1 (.tmp 28), none⟩,
 ⟨some 30, .mov (.tmp 8), none⟩,
 ⟨some 31, .bslice 3 1 [(.int .i64 0)] 1 [(0, (.tmp 30))], none⟩,
 ⟨some 32, .app 3 1 (.tmp 29) (.tmp 31), none⟩,
 ⟨some 33, .faddr 3 (.tmp 5), none⟩,
 ⟨none, .store 1 (.tmp 33) (.tmp 32), none⟩])
 (.dreg [⟨some 34, .faddr 1 (.tmp 5), none⟩,
 ⟨some 35, .load false 1 (.tmp 34), none⟩,
 ⟨some 36, .mov (.tmp 0), none⟩,
 ⟨some 37, .nilc (.tmp 36), none⟩,
 ⟨some 38, .faddr 0 (.tmp 37), none⟩,
 ⟨some 39, .load false 1 (.tmp 38), none⟩,
 ⟨some 40, .mov (.tmp 8), none⟩,
 ⟨some 41, .iaddr 4 (.tmp 39) (.tmp 40), none⟩,
 ⟨some 42, .faddr 1 (.tmp 41), none⟩,
 ⟨some 43, .load false 1 (.tmp 42), none⟩,
 ⟨some 44, .bin .add .int (.tmp 35) (.tmp 43), none⟩,
 ⟨some 45, .faddr 1 (.tmp 5), none⟩,
 ⟨none, .store 1 (.tmp 45) (.tmp 44), none⟩]
 [[], [0], [], [2], [3], [4], [], [5, 6], [7], [8], [1, 9], [0, 1, 2, 3, 4, 5, 6, 7, 8, 9, 10], [11, 10, 0, 1, 2, 3, 4, 5, 6, 7, 8, 9, 10]]
 [[5], [34], [0], [36], [37], [38], [8], [39, 40], [41], [42], [35, 43], [5], [45, 44]])))))
 (.reg [⟨some 46, .bin .add .int (.tmp 21) (.const (.int .i64 1)), none⟩,
 ⟨some 21, .mov (.tmp 46), none⟩])))
def ac101 : AC := .seq
 (.reg [⟨some 3, .box 78 3 (.tmp 1), none⟩,
 ⟨some 4, .mov (.const (.int .i64 0)), none⟩])
 (.seq
 (.reg [⟨some 10, .faddr 0 (.tmp 3), none⟩,
 ⟨some 11, .load false 1 (.tmp 10), none⟩,
 ⟨some 12, .faddr 1 (.tmp 3), none⟩,
 ⟨some 13, .load false 1 (.tmp 12), none⟩,
 ⟨some 14, .slen true (.tmp 13), none⟩,
 ⟨some 15, .faddr 1 (.tmp 3), none⟩,
 ⟨some 16, .load false 1 (.tmp 15), none⟩,
 ⟨some 17, .build [(.int .i64 0), (.int .i64 0), (.string ⟨#[]⟩), (.slice none 0 0)] [(0, 1), (1, 1), (2, 1), (3, 1)] [(0, (.tmp 11)), (1, (.tmp 14)), (2, (.tmp 16))], none⟩,
 ⟨some 5, .alloc 122 4 [(.int .i64 0), (.int .i64 0), (.string ⟨#[]⟩), (.slice none 0 0)], none⟩,
 ⟨none, .store 4 (.tmp 5) (.tmp 17), none⟩])
 (.seq
 (.seq
 (.reg [⟨some 18, .faddr 2 (.tmp 3), none⟩,
 ⟨some 19, .load false 1 (.tmp 18), none⟩,
 ⟨some 20, .slen false (.tmp 19), none⟩,
 ⟨some 21, .mov (.const (.int .i64 0)), none⟩])
 (.block 0
 (.loop ac101_l0)))
 (.seq
 (.seq
 (.reg [⟨some 47, .mov (.tmp 0), none⟩,
 ⟨some 48, .nilc (.tmp 47), none⟩,
 ⟨some 49, .faddr 0 (.tmp 48), none⟩,
 ⟨some 50, .load false 1 (.tmp 49), none⟩,
 ⟨some 51, .mkfn 122 [(.tmp 5)], none⟩,
 ⟨some 52, .call (.func 121) [(.tmp 50), (.tmp 51)], none⟩,
 ⟨some 9, .mov (.tmp 52), none⟩])
 (.seq
 (.reg [⟨some 53, .mov (.tmp 9), none⟩,
 ⟨some 54, .bin .geq .int (.tmp 53) (.const (.int .i64 0)), none⟩])
 (.cond (.tmp 54)
 (.seq
 (.reg [⟨some 55, .mov (.tmp 9), none⟩,
 ⟨some 4, .mov (.tmp 55), none⟩])
 (.ret))
 (.skip))))
 (.seq
 (.dreg [⟨some 56, .mov (.tmp 0), none⟩,
 ⟨some 57, .mov (.tmp 0), none⟩,
 ⟨some 58, .nilc (.tmp 57), none⟩,
 ⟨some 59, .faddr 0 (.tmp 58), none⟩,
 ⟨some 60, .load false 1 (.tmp 59), none⟩,
 ⟨some 61, .load true 4 (.tmp 5), none⟩,
 ⟨some 62, .bslice 122 4 [(.int .i64 0), (.int .i64 0), (.string ⟨#[]⟩), (.slice none 0 0)] 1 [(0, (.tmp 61))], none⟩,
 ⟨some 63, .app 122 4 (.tmp 60) (.tmp 62), none⟩,
 ⟨some 64, .nilc (.tmp 56), none⟩,
 ⟨some 65, .faddr 0 (.tmp 64), none⟩,
 ⟨none, .store 1 (.tmp 65) (.tmp 63), none⟩]
 [[], [], [1], [2], [3], [], [5], [4, 6], [0, 0, 1, 2, 3, 4, 5, 6, 7], [8, 0, 1, 2, 3, 4, 5, 6, 7], [9, 7, 7, 0, 1, 2, 3, 4, 5, 6, 7]]
 [[0], [0], [57], [58], [59], [5], [61], [60, 62], [56], [64], [65, 63]])
 (.seq
 (.reg [⟨some 66, .mov (.tmp 0), none⟩,
 ⟨some 67, .nilc (.tmp 66), none⟩,
 ⟨some 68, .faddr 0 (.tmp 67), none⟩,
 ⟨some 69, .load false 1 (.tmp 68), none⟩,
 ⟨some 70, .slen false (.tmp 69), none⟩,
 ⟨some 71, .bin .sub .int (.tmp 70) (.const (.int .i64 1)), none⟩,
 ⟨some 4, .mov (.tmp 71), none⟩])
 (.ret))))))
theorem fn101 : Fun Try.prog 101 72 ac101 [.tmp 4] := ⟨mixedG, Try.f101, _, Try.func101, rfl, by decide +kernel, rfl, by kernel_rfl, by kernel_rfl⟩
/- glossator/greentree.build -/
def ac102_l0 : AC := .seq
 (.reg [⟨some 30, .bin .lss .int (.tmp 29) (.tmp 28), none⟩])
 (.seq
 (.cond (.tmp 30)
 (.skip)
 (.exit 0))
 (.seq
 (.block 1
 (.seq
 (.reg [⟨some 31, .iaddr 1 (.tmp 27) (.tmp 29), none⟩,
 ⟨some 32, .load false 1 (.tmp 31), none⟩,
 ⟨some 10, .mov (.tmp 32), none⟩])
 (.seq
 (.reg [⟨some 33, .mov (.tmp 2), none⟩,
 ⟨some 34, .nilc (.tmp 33), none⟩,
 ⟨some 35, .load false 1 (.tmp 34), none⟩,
 ⟨some 36, .bin .geq .int (.tmp 35) (.const (.int .i64 0)), none⟩])
 (.cond (.tmp 36)
 (.dreg [⟨some 37, .faddr 2 (.tmp 8), none⟩,
 ⟨some 38, .load false 1 (.tmp 37), none⟩,
 ⟨some 39, .load true 1 (.tmp 3), none⟩,
 ⟨some 40, .mov (.tmp 10), none⟩,
 ⟨some 41, .mov (.tmp 2), none⟩,
 ⟨some 42, .call (.func 102) [(.tmp 39), (.tmp 40), (.tmp 41)], none⟩,
 ⟨some 43, .bslice 78 3 [(.int .i64 0), (.string ⟨#[]⟩), (.slice none 0 0)] 1 [(0, (.tmp 42))], none⟩,
 ⟨some 44, .app 78 3 (.tmp 38) (.tmp 43), none⟩,
 ⟨some 45, .faddr 2 (.tmp 8), none⟩,
 ⟨none, .store 1 (.tmp 45) (.tmp 44), none⟩]
 [[], [0], [], [], [], [2, 3, 4], [5], [1, 6, 5], [0, 1, 2, 3, 4, 5, 6, 7], [8, 7, 7, 0, 1, 2, 3, 4, 5, 6, 7]]
 [[8], [37], [3], [10], [2], [39, 40, 41], [42], [38, 43], [8], [45, 44]])
 (.skip)))))
 (.reg [⟨some 46, .bin .add .int (.tmp 29) (.const (.int .i64 1)), none⟩,
 ⟨some 29, .mov (.tmp 46), none⟩])))
def ac102 : AC := .seq
 (.reg [⟨some 3, .box 75 1 (.tmp 0), none⟩,
 ⟨some 6, .alloc 78 3 [(.int .i64 0), (.string ⟨#[]⟩), (.slice none 0 0)], none⟩])
 (.seq
 (.reg [⟨some 11, .mov (.tmp 2), none⟩,
 ⟨some 12, .nilc (.tmp 11), none⟩,
 ⟨some 13, .load false 1 (.tmp 12), none⟩,
 ⟨some 14, .bin .sub .int (.tmp 13) (.const (.int .i64 1)), none⟩,
 ⟨some 15, .nilc (.tmp 11), none⟩,
 ⟨none, .store 1 (.tmp 15) (.tmp 14), none⟩])
 (.seq
 (.reg [⟨some 16, .faddr 0 (.tmp 3), none⟩,
 ⟨some 17, .load false 1 (.tmp 16), none⟩,
 ⟨some 18, .mov (.tmp 1), none⟩,
 ⟨some 19, .iaddr 4 (.tmp 17) (.tmp 18), none⟩,
 ⟨some 20, .load true 4 (.tmp 19), none⟩,
 ⟨some 7, .alloc 122 4 [(.int .i64 0), (.int .i64 0), (.string ⟨#[]⟩), (.slice none 0 0)], none⟩,
 ⟨none, .store 4 (.tmp 7) (.tmp 20), none⟩])
 (.seq
 (.reg [⟨some 21, .faddr 0 (.tmp 7), none⟩,
 ⟨some 22, .load false 1 (.tmp 21), none⟩,
 ⟨some 23, .faddr 2 (.tmp 7), none⟩,
 ⟨some 24, .load false 1 (.tmp 23), none⟩,
 ⟨some 25, .build [(.int .i64 0), (.string ⟨#[]⟩), (.slice none 0 0)] [(0, 1), (1, 1), (2, 1)] [(0, (.tmp 22)), (1, (.tmp 24))], none⟩,
 ⟨some 8, .alloc 78 3 [(.int .i64 0), (.string ⟨#[]⟩), (.slice none 0 0)], none⟩,
 ⟨none, .store 3 (.tmp 8) (.tmp 25), none⟩])
 (.seq
 (.seq
 (.reg [⟨some 26, .faddr 3 (.tmp 7), none⟩,
 ⟨some 27, .load false 1 (.tmp 26), none⟩,
 ⟨some 28, .slen false (.tmp 27), none⟩,
 ⟨some 29, .mov (.const (.int .i64 0)), none⟩])
 (.block 0
 (.loop ac102_l0)))
 (.seq
 (.reg [⟨some 47, .load true 3 (.tmp 8), none⟩,
 ⟨none, .store 3 (.tmp 6) (.tmp 47), none⟩])
 (.ret))))))
theorem fn102 : Fun Try.prog 102 48 ac102 [.cell 6 3 true] := ⟨mixedG, Try.f102, _, Try.func102, rfl, by decide +kernel, rfl, by kernel_rfl, by kernel_rfl⟩
/- glossator/glossatorref1.EqualLists[int] -/
def ac103_l0 : AC := .seq
 (.reg [⟨some 14, .bin .lss .int (.tmp 13) (.tmp 12), none⟩])
 (.seq
 (.cond (.tmp 14)
 (.skip)
 (.exit 0))
 (.seq
 (.block 1
 (.seq
 (.reg [⟨some 15, .mov (.tmp 13), none⟩,
 ⟨some 5, .mov (.tmp 15), none⟩])
 (.seq
 (.dreg [⟨some 16, .mov (.tmp 0), none⟩,
 ⟨some 17, .mov (.tmp 5), none⟩,
 ⟨some 18, .iaddr 1 (.tmp 16) (.tmp 17), none⟩,
 ⟨some 19, .load false 1 (.tmp 18), none⟩,
 ⟨some 20, .mov (.tmp 1), none⟩,
 ⟨some 21, .mov (.tmp 5), none⟩,
 ⟨some 22, .iaddr 1 (.tmp 20) (.tmp 21), none⟩,
 ⟨some 23, .load false 1 (.tmp 22), none⟩,
 ⟨some 24, .bin .neq .int (.tmp 19) (.tmp 23), none⟩]
 [[], [], [0, 1], [2], [], [], [4, 5], [6], [3, 7]]
 [[0], [5], [16, 17], [18], [1], [5], [20, 21], [22], [19, 23]])
 (.cond (.tmp 24)
 (.seq
 (.reg [⟨some 4, .mov (.const (.bool false)), none⟩])
 (.ret))
 (.skip)))))
 (.reg [⟨some 25, .bin .add .int (.tmp 13) (.const (.int .i64 1)), none⟩,
 ⟨some 13, .mov (.tmp 25), none⟩])))
def ac103 : AC := .seq
 (.reg [⟨some 4, .mov (.const (.bool false)), none⟩])
 (.seq
 (.seq
 (.reg [⟨some 6, .mov (.tmp 0), none⟩,
 ⟨some 7, .slen false (.tmp 6), none⟩,
 ⟨some 8, .mov (.tmp 1), none⟩,
 ⟨some 9, .slen false (.tmp 8), none⟩,
 ⟨some 10, .bin .neq .int (.tmp 7) (.tmp 9), none⟩])
 (.cond (.tmp 10)
 (.seq
 (.reg [⟨some 4, .mov (.const (.bool false)), none⟩])
 (.ret))
 (.skip)))
 (.seq
 (.seq
 (.reg [⟨some 11, .mov (.tmp 0), none⟩,
 ⟨some 12, .slen false (.tmp 11), none⟩,
 ⟨some 13, .mov (.const (.int .i64 0)), none⟩])
 (.block 0
 (.loop ac103_l0)))
 (.seq
 (.reg [⟨some 4, .mov (.const (.bool true)), none⟩])
 (.ret))))
theorem fn103 : Fun Try.prog 103 26 ac103 [.tmp 4] := ⟨mixedG, Try.f103, _, Try.func103, rfl, by decide +kernel, rfl, by kernel_rfl, by kernel_rfl⟩
/- glossator/glossatorref1.Clone[glossator/api.GreenNode] -/
def ac104 : AC := .seq
 (.reg [⟨some 2, .mov (.const (.slice none 0 0)), none⟩])
 (.seq
 (.reg [⟨some 3, .mov (.tmp 0), none⟩,
 ⟨some 4, .app 122 4 (.const (.slice none 0 0)) (.tmp 3), none⟩,
 ⟨some 2, .mov (.tmp 4), none⟩])
 (.ret))
theorem fn104 : Fun Try.prog 104 5 ac104 [.tmp 2] := ⟨mixedG, Try.f104, _, Try.func104, rfl, by decide +kernel, rfl, by kernel_rfl, by kernel_rfl⟩
/- slices.ContainsFunc[[]glossator/api.GreenNode,glossator/api.GreenNode] -/
def ac113 : AC := .seq
 (.reg [⟨some 4, .mov (.const (.bool false)), none⟩])
 (.seq
 (.reg [⟨some 5, .mov (.tmp 0), none⟩,
 ⟨some 6, .mov (.tmp 1), none⟩,
 ⟨some 7, .call (.func 121) [(.tmp 5), (.tmp 6)], none⟩,
 ⟨some 8, .bin .geq .int (.tmp 7) (.const (.int .i64 0)), none⟩,
 ⟨some 4, .mov (.tmp 8), none⟩])
 (.ret))
theorem fn113 : Fun Try.prog 113 9 ac113 [.tmp 4] := ⟨mixedG, Try.f113, _, Try.func113, rfl, by decide +kernel, rfl, by kernel_rfl, by kernel_rfl⟩
/- glossator/greentree.isValid$1 -/
def ac114 : AC := .seq
 (.reg [⟨some 2, .box 122 4 (.tmp 0), none⟩,
 ⟨some 3, .mov (.const (.bool false)), none⟩])
 (.seq
 (.reg [⟨some 4, .load true 4 (.tmp 2), none⟩,
 ⟨some 5, .load true 4 (.tmp 1), none⟩,
 ⟨some 6, .call (.func 115) [(.tmp 4), (.tmp 5)], none⟩,
 ⟨some 3, .mov (.tmp 6), none⟩])
 (.ret))
theorem fn114 : Fun Try.prog 114 7 ac114 [.tmp 3] := ⟨mixedG, Try.f114, _, Try.func114, rfl, by decide +kernel, rfl, by kernel_rfl, by kernel_rfl⟩
/- glossator/greentree.equal -/
def ac115 : AC := .seq
 (.reg [⟨some 2, .box 122 4 (.tmp 0), none⟩,
 ⟨some 3, .box 122 4 (.tmp 1), none⟩,
 ⟨some 4, .mov (.const (.bool false)), none⟩])
 (.seq
 (.reg [⟨some 5, .faddr 0 (.tmp 2), none⟩,
 ⟨some 6, .load false 1 (.tmp 5), none⟩,
 ⟨some 7, .faddr 0 (.tmp 3), none⟩,
 ⟨some 8, .load false 1 (.tmp 7), none⟩,
 ⟨some 9, .bin .eql .int (.tmp 6) (.tmp 8), none⟩,
 ⟨some 10, .mov (.tmp 9), none⟩,
 ⟨some 11, .faddr 1 (.tmp 2), some (10, true)⟩,
 ⟨some 12, .load false 1 (.tmp 11), some (10, true)⟩,
 ⟨some 13, .faddr 1 (.tmp 3), some (10, true)⟩,
 ⟨some 14, .load false 1 (.tmp 13), some (10, true)⟩,
 ⟨some 15, .bin .eql .int (.tmp 12) (.tmp 14), some (10, true)⟩,
 ⟨some 16, .pick (.tmp 10) (.tmp 15) (.const (.bool false)), none⟩,
 ⟨some 17, .mov (.tmp 16), none⟩,
 ⟨some 18, .faddr 2 (.tmp 2), some (17, true)⟩,
 ⟨some 19, .load false 1 (.tmp 18), some (17, true)⟩,
 ⟨some 20, .faddr 2 (.tmp 3), some (17, true)⟩,
 ⟨some 21, .load false 1 (.tmp 20), some (17, true)⟩,
 ⟨some 22, .bin .eql .str (.tmp 19) (.tmp 21), some (17, true)⟩,
 ⟨some 23, .pick (.tmp 17) (.tmp 22) (.const (.bool false)), none⟩,
 ⟨some 24, .mov (.tmp 23), none⟩,
 ⟨some 25, .faddr 3 (.tmp 2), some (24, true)⟩,
 ⟨some 26, .load false 1 (.tmp 25), some (24, true)⟩,
 ⟨some 27, .faddr 3 (.tmp 3), some (24, true)⟩,
 ⟨some 28, .load false 1 (.tmp 27), some (24, true)⟩,
 ⟨some 29, .call (.func 41) [(.tmp 26), (.tmp 28)], some (24, true)⟩,
 ⟨some 30, .pick (.tmp 24) (.tmp 29) (.const (.bool false)), none⟩,
 ⟨some 4, .mov (.tmp 30), none⟩])
 (.ret))
theorem fn115 : Fun Try.prog 115 31 ac115 [.tmp 4] := ⟨mixedG, Try.f115, _, Try.func115, rfl, by decide +kernel, rfl, by kernel_rfl, by kernel_rfl⟩
/- slices.ContainsFunc[[]glossator/api.SyntaxTree,glossator/api.SyntaxTree] -/
def ac116 : AC := .seq
 (.reg [⟨some 4, .mov (.const (.bool false)), none⟩])
 (.seq
 (.reg [⟨some 5, .mov (.tmp 0), none⟩,
 ⟨some 6, .mov (.tmp 1), none⟩,
 ⟨some 7, .call (.func 126) [(.tmp 5), (.tmp 6)], none⟩,
 ⟨some 8, .bin .geq .int (.tmp 7) (.const (.int .i64 0)), none⟩,
 ⟨some 4, .mov (.tmp 8), none⟩])
 (.ret))
theorem fn116 : Fun Try.prog 116 9 ac116 [.tmp 4] := ⟨mixedG, Try.f116, _, Try.func116, rfl, by decide +kernel, rfl, by kernel_rfl, by kernel_rfl⟩
/- glossator/greentree.exceeds$1 -/
def ac117 : AC := .seq
 (.reg [⟨some 3, .box 78 3 (.tmp 0), none⟩,
 ⟨some 4, .mov (.const (.bool false)), none⟩])
 (.seq
 (.reg [⟨some 5, .load true 3 (.tmp 3), none⟩,
 ⟨some 6, .load false 1 (.tmp 1), none⟩,
 ⟨some 7, .bin .add .int (.tmp 6) (.const (.int .i64 1)), none⟩,
 ⟨some 8, .load false 1 (.tmp 2), none⟩,
 ⟨some 9, .call (.func 98) [(.tmp 5), (.tmp 7), (.tmp 8)], none⟩,
 ⟨some 4, .mov (.tmp 9), none⟩])
 (.ret))
theorem fn117 : Fun Try.prog 117 10 ac117 [.tmp 4] := ⟨mixedG, Try.f117, _, Try.func117, rfl, by decide +kernel, rfl, by kernel_rfl, by kernel_rfl⟩
/- glossator/greentree.isTree$1 -/
def ac118 : AC := .seq
 (.reg [⟨some 1, .box 78 3 (.tmp 0), none⟩,
 ⟨some 2, .mov (.const (.bool false)), none⟩])
 (.seq
 (.reg [⟨some 3, .load true 3 (.tmp 1), none⟩,
 ⟨some 4, .call (.func 99) [(.tmp 3)], none⟩,
 ⟨some 5, .un .not (.tmp 4), none⟩,
 ⟨some 2, .mov (.tmp 5), none⟩])
 (.ret))
theorem fn118 : Fun Try.prog 118 6 ac118 [.tmp 2] := ⟨mixedG, Try.f118, _, Try.func118, rfl, by decide +kernel, rfl, by kernel_rfl, by kernel_rfl⟩
/- slices.Clone[[]glossator/api.GreenNode,glossator/api.GreenNode] -/
def ac119 : AC := .seq
 (.reg [⟨some 2, .mov (.const (.slice none 0 0)), none⟩])
 (.seq
 (.seq
 (.reg [⟨some 3, .mov (.tmp 0), none⟩,
 ⟨some 4, .bin .eql .slice (.tmp 3) (.const (.slice none 0 0)), none⟩])
 (.cond (.tmp 4)
 (.seq
 (.reg [⟨some 2, .mov (.const (.slice none 0 0)), none⟩])
 (.ret))
 (.skip)))
 (.seq
 (.reg [⟨some 5, .bslice 122 4 [(.int .i64 0), (.int .i64 0), (.string ⟨#[]⟩), (.slice none 0 0)] 0 [], none⟩,
 ⟨some 6, .mov (.tmp 0), none⟩,
 ⟨some 7, .app 122 4 (.tmp 5) (.tmp 6), none⟩,
 ⟨some 2, .mov (.tmp 7), none⟩])
 (.ret)))
theorem fn119 : Fun Try.prog 119 8 ac119 [.tmp 2] := ⟨mixedG, Try.f119, _, Try.func119, rfl, by decide +kernel, rfl, by kernel_rfl, by kernel_rfl⟩
/- slices.Clone[[]int,int] -/
def ac120 : AC := .seq
 (.reg [⟨some 2, .mov (.const (.slice none 0 0)), none⟩])
 (.seq
 (.seq
 (.reg [⟨some 3, .mov (.tmp 0), none⟩,
 ⟨some 4, .bin .eql .slice (.tmp 3) (.const (.slice none 0 0)), none⟩])
 (.cond (.tmp 4)
 (.seq
 (.reg [⟨some 2, .mov (.const (.slice none 0 0)), none⟩])
 (.ret))
 (.skip)))
 (.seq
 (.reg [⟨some 5, .bslice 3 1 [(.int .i64 0)] 0 [], none⟩,
 ⟨some 6, .mov (.tmp 0), none⟩,
 ⟨some 7, .app 3 1 (.tmp 5) (.tmp 6), none⟩,
 ⟨some 2, .mov (.tmp 7), none⟩])
 (.ret)))
theorem fn120 : Fun Try.prog 120 8 ac120 [.tmp 2] := ⟨mixedG, Try.f120, _, Try.func120, rfl, by decide +kernel, rfl, by kernel_rfl, by kernel_rfl⟩
/- slices.IndexFunc[[]glossator/api.GreenNode,glossator/api.GreenNode] -/
def ac121_l0 : AC := .seq
 (.reg [⟨some 9, .bin .lss .int (.tmp 8) (.tmp 7), none⟩])
 (.seq
 (.cond (.tmp 9)
 (.skip)
 (.exit 0))
 (.seq
 (.block 1
 (.seq
 (.reg [⟨some 10, .mov (.tmp 8), none⟩,
 ⟨some 5, .mov (.tmp 10), none⟩])
 (.seq
 (.reg [⟨some 11, .mov (.tmp 1), none⟩,
 ⟨some 12, .mov (.tmp 0), none⟩,
 ⟨some 13, .mov (.tmp 5), none⟩,
 ⟨some 14, .iaddr 4 (.tmp 12) (.tmp 13), none⟩,
 ⟨some 15, .load true 4 (.tmp 14), none⟩,
 ⟨some 16, .call (.tmp 11) [(.tmp 15)], none⟩])
 (.cond (.tmp 16)
 (.seq
 (.reg [⟨some 17, .mov (.tmp 5), none⟩,
 ⟨some 4, .mov (.tmp 17), none⟩])
 (.ret))
 (.skip)))))
 (.reg [⟨some 18, .bin .add .int (.tmp 8) (.const (.int .i64 1)), none⟩,
 ⟨some 8, .mov (.tmp 18), none⟩])))
def ac121 : AC := .seq
 (.reg [⟨some 4, .mov (.const (.int .i64 0)), none⟩])
 (.seq
 (.seq
 (.reg [⟨some 6, .mov (.tmp 0), none⟩,
 ⟨some 7, .slen false (.tmp 6), none⟩,
 ⟨some 8, .mov (.const (.int .i64 0)), none⟩])
 (.block 0
 (.loop ac121_l0)))
 (.seq
 (.reg [⟨some 4, .mov (.const (.int .i64 (-1))), none⟩])
 (.ret)))
theorem fn121 : Fun Try.prog 121 19 ac121 [.tmp 4] := ⟨mixedG, Try.f121, _, Try.func121, rfl, by decide +kernel, rfl, by kernel_rfl, by kernel_rfl⟩
/- glossator/greentree.insert$1 -/
def ac122 : AC := .seq
 (.reg [⟨some 2, .box 122 4 (.tmp 0), none⟩,
 ⟨some 3, .mov (.const (.bool false)), none⟩])
 (.seq
 (.reg [⟨some 4, .load true 4 (.tmp 2), none⟩,
 ⟨some 5, .load true 4 (.tmp 1), none⟩,
 ⟨some 6, .call (.func 115) [(.tmp 4), (.tmp 5)], none⟩,
 ⟨some 3, .mov (.tmp 6), none⟩])
 (.ret))
theorem fn122 : Fun Try.prog 122 7 ac122 [.tmp 3] := ⟨mixedG, Try.f122, _, Try.func122, rfl, by decide +kernel, rfl, by kernel_rfl, by kernel_rfl⟩
/- slices.IndexFunc[[]glossator/api.SyntaxTree,glossator/api.SyntaxTree] -/
def ac126_l0 : AC := .seq
 (.reg [⟨some 9, .bin .lss .int (.tmp 8) (.tmp 7), none⟩])
 (.seq
 (.cond (.tmp 9)
 (.skip)
 (.exit 0))
 (.seq
 (.block 1
 (.seq
 (.reg [⟨some 10, .mov (.tmp 8), none⟩,
 ⟨some 5, .mov (.tmp 10), none⟩])
 (.seq
 (.reg [⟨some 11, .mov (.tmp 1), none⟩,
 ⟨some 12, .mov (.tmp 0), none⟩,
 ⟨some 13, .mov (.tmp 5), none⟩,
 ⟨some 14, .iaddr 3 (.tmp 12) (.tmp 13), none⟩,
 ⟨some 15, .load true 3 (.tmp 14), none⟩,
 ⟨some 16, .call (.tmp 11) [(.tmp 15)], none⟩])
 (.cond (.tmp 16)
 (.seq
 (.reg [⟨some 17, .mov (.tmp 5), none⟩,
 ⟨some 4, .mov (.tmp 17), none⟩])
 (.ret))
 (.skip)))))
 (.reg [⟨some 18, .bin .add .int (.tmp 8) (.const (.int .i64 1)), none⟩,
 ⟨some 8, .mov (.tmp 18), none⟩])))
def ac126 : AC := .seq
 (.reg [⟨some 4, .mov (.const (.int .i64 0)), none⟩])
 (.seq
 (.seq
 (.reg [⟨some 6, .mov (.tmp 0), none⟩,
 ⟨some 7, .slen false (.tmp 6), none⟩,
 ⟨some 8, .mov (.const (.int .i64 0)), none⟩])
 (.block 0
 (.loop ac126_l0)))
 (.seq
 (.reg [⟨some 4, .mov (.const (.int .i64 (-1))), none⟩])
 (.ret)))
theorem fn126 : Fun Try.prog 126 19 ac126 [.tmp 4] := ⟨mixedG, Try.f126, _, Try.func126, rfl, by decide +kernel, rfl, by kernel_rfl, by kernel_rfl⟩
end Go.Proofs.Ytgphapkpoamcgaa
