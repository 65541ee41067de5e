/- The compact texts of the functions, printed by a program of mine (wip/tools/PrintFn.lean); each is shown to be what the translation compiles to. -/
import Derived.Test.YtljpmkaecfollaaDoorK2
import Derived.Test.YtljpmkaecfollaaDoorProg
set_option maxRecDepth 100000
namespace Go.Proofs.YtljpmkaecfollaaDoor
open Go Go.Ab
theorem mixedL : Tryd.prog.follows .mixedOrders = true := by kernel_rfl
/- glossator/glossatorlaw1.LexerReference -/
def ac3 : AC := .seq
 (.reg [⟨some 2, .mov (.const (.bool false)), none⟩])
 (.seq
 (.seq
 (.reg [⟨some 7, .call (.func 4) [], none⟩,
 ⟨some 8, .un .not (.tmp 7), none⟩])
 (.cond (.tmp 8)
 (.seq
 (.reg [⟨some 2, .mov (.const (.bool false)), none⟩])
 (.ret))
 (.skip)))
 (.seq
 (.reg [⟨some 10, .mov (.tmp 0), none⟩,
 ⟨some 11, .call (.func 5) [(.tmp 10)], none⟩,
 ⟨some 9, .mov (.tmp 11), none⟩,
 ⟨some 12, .ext (.tmp 9) 0, none⟩,
 ⟨some 13, .ext (.tmp 9) 1, none⟩,
 ⟨some 3, .mov (.tmp 12), none⟩,
 ⟨some 4, .mov (.tmp 13), none⟩])
 (.seq
 (.seq
 (.reg [⟨some 14, .mov (.tmp 0), none⟩,
 ⟨some 15, .slen true (.tmp 14), none⟩,
 ⟨some 16, .bin .gtr .int (.tmp 15) (.const (.int .i64 2000)), none⟩])
 (.cond (.tmp 16)
 (.seq
 (.reg [⟨some 17, .mov (.tmp 3), none⟩,
 ⟨some 18, .slen false (.tmp 17), none⟩,
 ⟨some 19, .bin .eql .int (.tmp 18) (.const (.int .i64 0)), none⟩,
 ⟨some 20, .mov (.tmp 19), none⟩,
 ⟨some 21, .mov (.tmp 4), some (20, true)⟩,
 ⟨some 22, .bin .eql .int (.tmp 21) (.const (.int .i64 2)), some (20, true)⟩,
 ⟨some 23, .pick (.tmp 20) (.tmp 22) (.const (.bool false)), none⟩,
 ⟨some 24, .mov (.tmp 23), none⟩,
 ⟨some 25, .mov (.tmp 0), some (24, true)⟩,
 ⟨some 26, .call (.func 6) [(.tmp 25)], some (24, true)⟩,
 ⟨some 27, .un .not (.tmp 26), some (24, true)⟩,
 ⟨some 28, .pick (.tmp 24) (.tmp 27) (.const (.bool false)), none⟩,
 ⟨some 2, .mov (.tmp 28), none⟩])
 (.ret))
 (.skip)))
 (.seq
 (.reg [⟨some 29, .mov (.tmp 0), none⟩,
 ⟨some 30, .call (.func 7) [(.tmp 29)], none⟩,
 ⟨some 5, .mov (.tmp 30), none⟩])
 (.seq
 (.reg [⟨some 31, .mov (.tmp 5), none⟩,
 ⟨some 32, .slen false (.tmp 31), none⟩,
 ⟨some 33, .bin .eql .int (.tmp 32) (.const (.int .i64 1)), none⟩,
 ⟨some 34, .mov (.tmp 33), none⟩,
 ⟨some 35, .mov (.tmp 5), some (34, true)⟩,
 ⟨some 36, .iaddr 2 (.tmp 35) (.const (.int .i64 0)), some (34, true)⟩,
 ⟨some 37, .faddr 0 (.tmp 36), some (34, true)⟩,
 ⟨some 38, .load false 1 (.tmp 37), some (34, true)⟩,
 ⟨some 39, .bin .eql .int (.tmp 38) (.const (.int .i64 103)), some (34, true)⟩,
 ⟨some 40, .pick (.tmp 34) (.tmp 39) (.const (.bool false)), none⟩,
 ⟨some 41, .mov (.tmp 40), none⟩,
 ⟨some 42, .mov (.tmp 0), some (41, true)⟩,
 ⟨some 43, .slen true (.tmp 42), some (41, true)⟩,
 ⟨some 44, .bin .leq .int (.tmp 43) (.const (.int .i64 30)), some (41, true)⟩,
 ⟨some 45, .pick (.tmp 41) (.tmp 44) (.const (.bool false)), none⟩,
 ⟨some 6, .mov (.tmp 45), none⟩])
 (.seq
 (.reg [⟨some 46, .mov (.tmp 4), none⟩,
 ⟨some 47, .bin .eql .int (.tmp 46) (.const (.int .i64 0)), none⟩,
 ⟨some 48, .mov (.tmp 47), none⟩,
 ⟨some 49, .mov (.tmp 3), some (48, true)⟩,
 ⟨some 50, .mov (.tmp 5), some (48, true)⟩,
 ⟨some 51, .call (.func 8) [(.tmp 49), (.tmp 50)], some (48, true)⟩,
 ⟨some 52, .pick (.tmp 48) (.tmp 51) (.const (.bool false)), none⟩,
 ⟨some 53, .mov (.tmp 52), none⟩,
 ⟨some 54, .call (.func 10) [], some (53, true)⟩,
 ⟨some 55, .call (.func 11) [], some (53, true)⟩,
 ⟨some 56, .call (.func 9) [(.tmp 54), (.tmp 55)], some (53, true)⟩,
 ⟨some 57, .pick (.tmp 53) (.tmp 56) (.const (.bool false)), none⟩,
 ⟨some 58, .mov (.tmp 57), none⟩,
 ⟨some 59, .mov (.tmp 0), some (58, true)⟩,
 ⟨some 60, .call (.func 6) [(.tmp 59)], some (58, true)⟩,
 ⟨some 61, .mov (.tmp 6), some (58, true)⟩,
 ⟨some 62, .bin .eql .bool (.tmp 60) (.tmp 61), some (58, true)⟩,
 ⟨some 63, .pick (.tmp 58) (.tmp 62) (.const (.bool false)), none⟩,
 ⟨some 2, .mov (.tmp 63), none⟩])
 (.ret)))))))
theorem fn3 : Fun Tryd.prog 3 64 ac3 [.tmp 2] := ⟨mixedL, Tryd.f3, _, Tryd.func3, rfl, by decide +kernel, rfl, by kernel_rfl, by kernel_rfl⟩
/- glossator/glossatorlaw1.lexerExample -/
def ac4 : AC := .seq
 (.reg [⟨some 0, .mov (.const (.bool false)), none⟩])
 (.seq
 (.reg [⟨some 4, .call (.func 5) [(.const (.string ⟨#[97, 47, 47, 98]⟩))], none⟩,
 ⟨some 3, .mov (.tmp 4), none⟩,
 ⟨some 5, .ext (.tmp 3) 0, none⟩,
 ⟨some 6, .ext (.tmp 3) 1, none⟩,
 ⟨some 1, .mov (.tmp 5), none⟩,
 ⟨some 2, .mov (.tmp 6), none⟩])
 (.seq
 (.reg [⟨some 7, .mov (.tmp 2), none⟩,
 ⟨some 8, .bin .eql .int (.tmp 7) (.const (.int .i64 0)), none⟩,
 ⟨some 9, .mov (.tmp 8), none⟩,
 ⟨some 10, .mov (.tmp 1), some (9, true)⟩,
 ⟨some 11, .build [(.int .i64 0), (.string ⟨#[]⟩)] [(0, 1), (1, 1)] [(0, (.const (.int .i64 103))), (1, (.const (.string ⟨#[97]⟩)))], some (9, true)⟩,
 ⟨some 12, .build [(.int .i64 0), (.string ⟨#[]⟩)] [(0, 1), (1, 1)] [(0, (.const (.int .i64 102))), (1, (.const (.string ⟨#[47, 47, 98]⟩)))], some (9, true)⟩,
 ⟨some 13, .bslice 30 2 [(.int .i64 0), (.string ⟨#[]⟩)] 2 [(0, (.tmp 11)), (1, (.tmp 12))], some (9, true)⟩,
 ⟨some 14, .call (.func 8) [(.tmp 10), (.tmp 13)], some (9, true)⟩,
 ⟨some 15, .pick (.tmp 9) (.tmp 14) (.const (.bool false)), none⟩,
 ⟨some 16, .mov (.tmp 15), none⟩,
 ⟨some 17, .call (.func 6) [(.const (.string ⟨#[97, 95, 49]⟩))], some (16, true)⟩,
 ⟨some 18, .pick (.tmp 16) (.tmp 17) (.const (.bool false)), none⟩,
 ⟨some 19, .mov (.tmp 18), none⟩,
 ⟨some 20, .call (.func 6) [(.const (.string ⟨#[117, 115, 101]⟩))], some (19, true)⟩,
 ⟨some 21, .un .not (.tmp 20), some (19, true)⟩,
 ⟨some 22, .pick (.tmp 19) (.tmp 21) (.const (.bool false)), none⟩,
 ⟨some 0, .mov (.tmp 22), none⟩])
 (.ret)))
theorem fn4 : Fun Tryd.prog 4 23 ac4 [.tmp 0] := ⟨mixedL, Tryd.f4, _, Tryd.func4, rfl, by decide +kernel, rfl, by kernel_rfl, by kernel_rfl⟩
/- glossator/lexer.Tokenize -/
def ac5_l0 : AC := .seq
 (.seq
 (.reg [⟨some 10, .mov (.tmp 0), none⟩,
 ⟨some 11, .slen true (.tmp 10), none⟩,
 ⟨some 12, .bin .gtr .int (.tmp 11) (.const (.int .i64 0)), none⟩])
 (.cond (.tmp 12)
 (.skip)
 (.exit 0)))
 (.block 1
 (.seq
 (.reg [⟨some 14, .mov (.tmp 0), none⟩,
 ⟨some 15, .call (.func 12) [(.tmp 14)], none⟩,
 ⟨some 13, .mov (.tmp 15), none⟩,
 ⟨some 16, .ext (.tmp 13) 0, none⟩,
 ⟨some 17, .ext (.tmp 13) 1, none⟩,
 ⟨some 5, .mov (.tmp 16), none⟩,
 ⟨some 6, .mov (.tmp 17), none⟩])
 (.seq
 (.reg [⟨some 18, .mov (.tmp 4), none⟩,
 ⟨some 19, .mov (.tmp 6), none⟩,
 ⟨some 20, .mov (.tmp 0), none⟩,
 ⟨some 21, .mov (.tmp 5), none⟩,
 ⟨some 22, .sslice (.tmp 20) none (some (.tmp 21)), none⟩,
 ⟨some 23, .build [(.int .i64 0), (.string ⟨#[]⟩)] [(0, 1), (1, 1)] [(0, (.tmp 19)), (1, (.tmp 22))], none⟩,
 ⟨some 24, .bslice 30 2 [(.int .i64 0), (.string ⟨#[]⟩)] 1 [(0, (.tmp 23))], none⟩,
 ⟨some 25, .app 30 2 (.tmp 18) (.tmp 24), none⟩,
 ⟨some 4, .mov (.tmp 25), none⟩])
 (.reg [⟨some 26, .mov (.tmp 0), none⟩,
 ⟨some 27, .mov (.tmp 5), none⟩,
 ⟨some 28, .sslice (.tmp 26) (some (.tmp 27)) none, none⟩,
 ⟨some 0, .mov (.tmp 28), none⟩]))))
def ac5 : AC := .seq
 (.reg [⟨some 2, .mov (.const (.slice none 0 0)), none⟩,
 ⟨some 3, .mov (.const (.int .i64 0)), none⟩])
 (.seq
 (.seq
 (.reg [⟨some 7, .mov (.tmp 0), none⟩,
 ⟨some 8, .slen true (.tmp 7), none⟩,
 ⟨some 9, .bin .gtr .int (.tmp 8) (.const (.int .i64 2000)), none⟩])
 (.cond (.tmp 9)
 (.seq
 (.reg [⟨some 2, .mov (.const (.slice none 0 0)), none⟩,
 ⟨some 3, .mov (.const (.int .i64 2)), none⟩])
 (.ret))
 (.skip)))
 (.seq
 (.reg [⟨some 4, .mov (.const (.slice none 0 0)), none⟩])
 (.seq
 (.block 0
 (.loop ac5_l0))
 (.seq
 (.reg [⟨some 29, .mov (.tmp 4), none⟩,
 ⟨some 2, .mov (.tmp 29), none⟩,
 ⟨some 3, .mov (.const (.int .i64 0)), none⟩])
 (.ret)))))
theorem fn5 : Fun Tryd.prog 5 30 ac5 [.tmp 2, .tmp 3] := ⟨mixedL, Tryd.f5, _, Tryd.func5, rfl, by decide +kernel, rfl, by kernel_rfl, by kernel_rfl⟩
/- glossator/lexer.IsIdentifier -/
def ac6 : AC := .seq
 (.reg [⟨some 2, .mov (.const (.bool false)), none⟩])
 (.seq
 (.seq
 (.reg [⟨some 5, .mov (.tmp 0), none⟩,
 ⟨some 6, .slen true (.tmp 5), none⟩,
 ⟨some 7, .bin .eql .int (.tmp 6) (.const (.int .i64 0)), none⟩,
 ⟨some 8, .mov (.tmp 7), none⟩,
 ⟨some 9, .mov (.tmp 0), some (8, false)⟩,
 ⟨some 10, .slen true (.tmp 9), some (8, false)⟩,
 ⟨some 11, .bin .gtr .int (.tmp 10) (.const (.int .i64 30)), some (8, false)⟩,
 ⟨some 12, .pick (.tmp 8) (.const (.bool true)) (.tmp 11), none⟩])
 (.cond (.tmp 12)
 (.seq
 (.reg [⟨some 2, .mov (.const (.bool false)), none⟩])
 (.ret))
 (.skip)))
 (.seq
 (.reg [⟨some 14, .mov (.tmp 0), none⟩,
 ⟨some 15, .call (.func 12) [(.tmp 14)], none⟩,
 ⟨some 13, .mov (.tmp 15), none⟩,
 ⟨some 16, .ext (.tmp 13) 0, none⟩,
 ⟨some 17, .ext (.tmp 13) 1, none⟩,
 ⟨some 3, .mov (.tmp 16), none⟩,
 ⟨some 4, .mov (.tmp 17), none⟩])
 (.seq
 (.reg [⟨some 18, .mov (.tmp 3), none⟩,
 ⟨some 19, .mov (.tmp 0), none⟩,
 ⟨some 20, .slen true (.tmp 19), none⟩,
 ⟨some 21, .bin .eql .int (.tmp 18) (.tmp 20), none⟩,
 ⟨some 22, .mov (.tmp 21), none⟩,
 ⟨some 23, .mov (.tmp 4), some (22, true)⟩,
 ⟨some 24, .bin .eql .int (.tmp 23) (.const (.int .i64 103)), some (22, true)⟩,
 ⟨some 25, .pick (.tmp 22) (.tmp 24) (.const (.bool false)), none⟩,
 ⟨some 2, .mov (.tmp 25), none⟩])
 (.ret))))
theorem fn6 : Fun Tryd.prog 6 26 ac6 [.tmp 2] := ⟨mixedL, Tryd.f6, _, Tryd.func6, rfl, by decide +kernel, rfl, by kernel_rfl, by kernel_rfl⟩
/- glossator/glossatorref1.Tokens -/
def ac7_l0 : AC := .seq
 (.seq
 (.reg [⟨some 5, .mov (.tmp 0), none⟩,
 ⟨some 6, .slen true (.tmp 5), none⟩,
 ⟨some 7, .bin .gtr .int (.tmp 6) (.const (.int .i64 0)), none⟩])
 (.cond (.tmp 7)
 (.skip)
 (.exit 0)))
 (.block 1
 (.seq
 (.reg [⟨some 8, .mov (.tmp 0), none⟩,
 ⟨some 9, .call (.func 13) [(.tmp 8)], none⟩,
 ⟨some 4, .alloc 30 2 [(.int .i64 0), (.string ⟨#[]⟩)], none⟩,
 ⟨none, .store 2 (.tmp 4) (.tmp 9), none⟩])
 (.seq
 (.reg [⟨some 10, .mov (.tmp 3), none⟩,
 ⟨some 11, .load true 2 (.tmp 4), none⟩,
 ⟨some 12, .bslice 30 2 [(.int .i64 0), (.string ⟨#[]⟩)] 1 [(0, (.tmp 11))], none⟩,
 ⟨some 13, .app 30 2 (.tmp 10) (.tmp 12), none⟩,
 ⟨some 3, .mov (.tmp 13), none⟩])
 (.reg [⟨some 14, .mov (.tmp 0), none⟩,
 ⟨some 15, .faddr 1 (.tmp 4), none⟩,
 ⟨some 16, .load false 1 (.tmp 15), none⟩,
 ⟨some 17, .slen true (.tmp 16), none⟩,
 ⟨some 18, .sslice (.tmp 14) (some (.tmp 17)) none, none⟩,
 ⟨some 0, .mov (.tmp 18), none⟩]))))
def ac7 : AC := .seq
 (.reg [⟨some 2, .mov (.const (.slice none 0 0)), none⟩])
 (.seq
 (.reg [⟨some 3, .mov (.const (.slice none 0 0)), none⟩])
 (.seq
 (.block 0
 (.loop ac7_l0))
 (.seq
 (.reg [⟨some 19, .mov (.tmp 3), none⟩,
 ⟨some 2, .mov (.tmp 19), none⟩])
 (.ret))))
theorem fn7 : Fun Tryd.prog 7 20 ac7 [.tmp 2] := ⟨mixedL, Tryd.f7, _, Tryd.func7, rfl, by decide +kernel, rfl, by kernel_rfl, by kernel_rfl⟩
/- glossator/glossatorref1.EqualLists[glossator/api.Token] -/
def ac8_l0 : AC := .seq
 (.reg [⟨some 14, .bin .lss .int (.tmp 13) (.tmp 12), none⟩])
 (.seq
 (.cond (.tmp 14)
 (.skip)
 (.exit 0))
 (.seq
 (.block 1
 (.seq
 (.reg [⟨some 15, .mov (.tmp 13), none⟩,
 ⟨some 5, .mov (.tmp 15), none⟩])
 (.seq
 (.dreg [⟨some 16, .mov (.tmp 0), none⟩,
 ⟨some 17, .mov (.tmp 5), none⟩,
 ⟨some 18, .iaddr 2 (.tmp 16) (.tmp 17), none⟩,
 ⟨some 19, .load true 2 (.tmp 18), none⟩,
 ⟨some 20, .mov (.tmp 1), none⟩,
 ⟨some 21, .mov (.tmp 5), none⟩,
 ⟨some 22, .iaddr 2 (.tmp 20) (.tmp 21), none⟩,
 ⟨some 23, .load true 2 (.tmp 22), none⟩,
 ⟨some 24, .bin .neq (.flat [.int, .str]) (.tmp 19) (.tmp 23), none⟩]
 [[], [], [0, 1], [2], [], [], [4, 5], [6], [3, 7]]
 [[0], [5], [16, 17], [18], [1], [5], [20, 21], [22], [19, 23]])
 (.cond (.tmp 24)
 (.seq
 (.reg [⟨some 4, .mov (.const (.bool false)), none⟩])
 (.ret))
 (.skip)))))
 (.reg [⟨some 25, .bin .add .int (.tmp 13) (.const (.int .i64 1)), none⟩,
 ⟨some 13, .mov (.tmp 25), none⟩])))
def ac8 : AC := .seq
 (.reg [⟨some 4, .mov (.const (.bool false)), none⟩])
 (.seq
 (.seq
 (.reg [⟨some 6, .mov (.tmp 0), none⟩,
 ⟨some 7, .slen false (.tmp 6), none⟩,
 ⟨some 8, .mov (.tmp 1), none⟩,
 ⟨some 9, .slen false (.tmp 8), none⟩,
 ⟨some 10, .bin .neq .int (.tmp 7) (.tmp 9), none⟩])
 (.cond (.tmp 10)
 (.seq
 (.reg [⟨some 4, .mov (.const (.bool false)), none⟩])
 (.ret))
 (.skip)))
 (.seq
 (.seq
 (.reg [⟨some 11, .mov (.tmp 0), none⟩,
 ⟨some 12, .slen false (.tmp 11), none⟩,
 ⟨some 13, .mov (.const (.int .i64 0)), none⟩])
 (.block 0
 (.loop ac8_l0)))
 (.seq
 (.reg [⟨some 4, .mov (.const (.bool true)), none⟩])
 (.ret))))
theorem fn8 : Fun Tryd.prog 8 26 ac8 [.tmp 4] := ⟨mixedL, Tryd.f8, _, Tryd.func8, rfl, by decide +kernel, rfl, by kernel_rfl, by kernel_rfl⟩
/- glossator/glossatorref1.EqualLists[string] -/
def ac9_l0 : AC := .seq
 (.reg [⟨some 14, .bin .lss .int (.tmp 13) (.tmp 12), none⟩])
 (.seq
 (.cond (.tmp 14)
 (.skip)
 (.exit 0))
 (.seq
 (.block 1
 (.seq
 (.reg [⟨some 15, .mov (.tmp 13), none⟩,
 ⟨some 5, .mov (.tmp 15), none⟩])
 (.seq
 (.dreg [⟨some 16, .mov (.tmp 0), none⟩,
 ⟨some 17, .mov (.tmp 5), none⟩,
 ⟨some 18, .iaddr 1 (.tmp 16) (.tmp 17), none⟩,
 ⟨some 19, .load false 1 (.tmp 18), none⟩,
 ⟨some 20, .mov (.tmp 1), none⟩,
 ⟨some 21, .mov (.tmp 5), none⟩,
 ⟨some 22, .iaddr 1 (.tmp 20) (.tmp 21), none⟩,
 ⟨some 23, .load false 1 (.tmp 22), none⟩,
 ⟨some 24, .bin .neq .str (.tmp 19) (.tmp 23), none⟩]
 [[], [], [0, 1], [2], [], [], [4, 5], [6], [3, 7]]
 [[0], [5], [16, 17], [18], [1], [5], [20, 21], [22], [19, 23]])
 (.cond (.tmp 24)
 (.seq
 (.reg [⟨some 4, .mov (.const (.bool false)), none⟩])
 (.ret))
 (.skip)))))
 (.reg [⟨some 25, .bin .add .int (.tmp 13) (.const (.int .i64 1)), none⟩,
 ⟨some 13, .mov (.tmp 25), none⟩])))
def ac9 : AC := .seq
 (.reg [⟨some 4, .mov (.const (.bool false)), none⟩])
 (.seq
 (.seq
 (.reg [⟨some 6, .mov (.tmp 0), none⟩,
 ⟨some 7, .slen false (.tmp 6), none⟩,
 ⟨some 8, .mov (.tmp 1), none⟩,
 ⟨some 9, .slen false (.tmp 8), none⟩,
 ⟨some 10, .bin .neq .int (.tmp 7) (.tmp 9), none⟩])
 (.cond (.tmp 10)
 (.seq
 (.reg [⟨some 4, .mov (.const (.bool false)), none⟩])
 (.ret))
 (.skip)))
 (.seq
 (.seq
 (.reg [⟨some 11, .mov (.tmp 0), none⟩,
 ⟨some 12, .slen false (.tmp 11), none⟩,
 ⟨some 13, .mov (.const (.int .i64 0)), none⟩])
 (.block 0
 (.loop ac9_l0)))
 (.seq
 (.reg [⟨some 4, .mov (.const (.bool true)), none⟩])
 (.ret))))
theorem fn9 : Fun Tryd.prog 9 26 ac9 [.tmp 4] := ⟨mixedL, Tryd.f9, _, Tryd.func9, rfl, by decide +kernel, rfl, by kernel_rfl, by kernel_rfl⟩
/- glossator/lexer.Keywords -/
def ac10 : AC := .seq
 (.reg [⟨some 0, .mov (.const (.slice none 0 0)), none⟩])
 (.seq
 (.reg [⟨some 1, .call (.func 14) [(.const (.string ⟨#[117, 115, 101, 32, 112, 117, 98, 32, 97, 115, 32, 102, 110, 32, 115, 116, 114, 117, 99, 116, 32, 101, 110, 117, 109, 32, 116, 114, 97, 105, 116, 32, 105, 109, 112, 108, 32, 102, 111, 114, 32, 99, 111, 110, 115, 116, 32, 109, 97, 99, 114, 111, 32, 108, 101, 116, 32, 109, 117, 116, 32, 119, 104, 105, 108, 101, 32, 114, 101, 116, 117, 114, 110, 32, 109, 97, 116, 99, 104, 32, 105, 102, 32, 101, 108, 115, 101, 32, 110, 101, 119, 32, 116, 114, 117, 101, 32, 102, 97, 108, 115, 101, 32, 116, 121, 112, 101]⟩))], none⟩,
 ⟨some 0, .mov (.tmp 1), none⟩])
 (.ret))
theorem fn10 : Fun Tryd.prog 10 2 ac10 [.tmp 0] := ⟨mixedL, Tryd.f10, _, Tryd.func10, rfl, by decide +kernel, rfl, by kernel_rfl, by kernel_rfl⟩
/- glossator/glossatorref1.Keywords -/
def ac11 : AC := .seq
 (.reg [⟨some 0, .mov (.const (.slice none 0 0)), none⟩])
 (.seq
 (.reg [⟨some 1, .bslice 9 1 [(.string ⟨#[]⟩)] 22 [(0, (.const (.string ⟨#[117, 115, 101]⟩))), (1, (.const (.string ⟨#[112, 117, 98]⟩))), (2, (.const (.string ⟨#[97, 115]⟩))), (3, (.const (.string ⟨#[102, 110]⟩))), (4, (.const (.string ⟨#[115, 116, 114, 117, 99, 116]⟩))), (5, (.const (.string ⟨#[101, 110, 117, 109]⟩))), (6, (.const (.string ⟨#[116, 114, 97, 105, 116]⟩))), (7, (.const (.string ⟨#[105, 109, 112, 108]⟩))), (8, (.const (.string ⟨#[102, 111, 114]⟩))), (9, (.const (.string ⟨#[99, 111, 110, 115, 116]⟩))), (10, (.const (.string ⟨#[109, 97, 99, 114, 111]⟩))), (11, (.const (.string ⟨#[108, 101, 116]⟩))), (12, (.const (.string ⟨#[109, 117, 116]⟩))), (13, (.const (.string ⟨#[119, 104, 105, 108, 101]⟩))), (14, (.const (.string ⟨#[114, 101, 116, 117, 114, 110]⟩))), (15, (.const (.string ⟨#[109, 97, 116, 99, 104]⟩))), (16, (.const (.string ⟨#[105, 102]⟩))), (17, (.const (.string ⟨#[101, 108, 115, 101]⟩))), (18, (.const (.string ⟨#[110, 101, 119]⟩))), (19, (.const (.string ⟨#[116, 114, 117, 101]⟩))), (20, (.const (.string ⟨#[102, 97, 108, 115, 101]⟩))), (21, (.const (.string ⟨#[116, 121, 112, 101]⟩)))], none⟩,
 ⟨some 0, .mov (.tmp 1), none⟩])
 (.ret))
theorem fn11 : Fun Tryd.prog 11 2 ac11 [.tmp 0] := ⟨mixedL, Tryd.f11, _, Tryd.func11, rfl, by decide +kernel, rfl, by kernel_rfl, by kernel_rfl⟩
/- glossator/lexer.First -/
def ac12 : AC := .seq
 (.reg [⟨some 2, .mov (.const (.int .i64 0)), none⟩,
 ⟨some 3, .mov (.const (.int .i64 0)), none⟩])
 (.seq
 (.seq
 (.reg [⟨some 6, .mov (.tmp 0), none⟩,
 ⟨some 7, .sindex (.tmp 6) (.const (.int .i64 0)), none⟩,
 ⟨some 4, .mov (.tmp 7), none⟩])
 (.block 0
 (.seq
 (.reg [⟨some 9, .mov (.tmp 4), none⟩,
 ⟨some 10, .call (.func 15) [(.tmp 9)], none⟩,
 ⟨some 8, .mov (.tmp 10), none⟩])
 (.cond (.tmp 8)
 (.seq
 (.reg [⟨some 11, .mov (.tmp 0), none⟩,
 ⟨some 12, .call (.func 16) [(.tmp 11), (.const (.int .i64 0)), (.func 15)], none⟩,
 ⟨some 2, .mov (.tmp 12), none⟩,
 ⟨some 3, .mov (.const (.int .i64 101)), none⟩])
 (.ret))
 (.seq
 (.reg [⟨some 14, .mov (.tmp 0), none⟩,
 ⟨some 15, .call (.func 17) [(.tmp 14), (.const (.string ⟨#[47, 47]⟩))], none⟩,
 ⟨some 13, .mov (.tmp 15), none⟩])
 (.cond (.tmp 13)
 (.seq
 (.reg [⟨some 16, .mov (.tmp 0), none⟩,
 ⟨some 17, .call (.func 16) [(.tmp 16), (.const (.int .i64 0)), (.func 18)], none⟩,
 ⟨some 2, .mov (.tmp 17), none⟩,
 ⟨some 3, .mov (.const (.int .i64 102)), none⟩])
 (.ret))
 (.seq
 (.reg [⟨some 19, .mov (.tmp 4), none⟩,
 ⟨some 20, .call (.func 19) [(.tmp 19)], none⟩,
 ⟨some 18, .mov (.tmp 20), none⟩])
 (.cond (.tmp 18)
 (.seq
 (.reg [⟨some 21, .mov (.tmp 0), none⟩,
 ⟨some 22, .call (.func 16) [(.tmp 21), (.const (.int .i64 0)), (.func 20)], none⟩,
 ⟨some 5, .mov (.tmp 22), none⟩])
 (.seq
 (.seq
 (.dreg [⟨some 23, .call (.func 10) [], none⟩,
 ⟨some 24, .mov (.tmp 0), none⟩,
 ⟨some 25, .mov (.tmp 5), none⟩,
 ⟨some 26, .sslice (.tmp 24) none (some (.tmp 25)), none⟩,
 ⟨some 27, .call (.func 22) [(.tmp 23), (.tmp 26)], none⟩]
 [[], [], [], [1, 2], [0, 3, 0]]
 [[], [0], [5], [24, 25], [23, 26]])
 (.cond (.tmp 27)
 (.seq
 (.reg [⟨some 28, .mov (.tmp 5), none⟩,
 ⟨some 2, .mov (.tmp 28), none⟩,
 ⟨some 3, .mov (.const (.int .i64 104)), none⟩])
 (.ret))
 (.skip)))
 (.seq
 (.reg [⟨some 29, .mov (.tmp 5), none⟩,
 ⟨some 2, .mov (.tmp 29), none⟩,
 ⟨some 3, .mov (.const (.int .i64 103)), none⟩])
 (.ret))))
 (.seq
 (.reg [⟨some 31, .mov (.tmp 4), none⟩,
 ⟨some 32, .call (.func 21) [(.tmp 31)], none⟩,
 ⟨some 30, .mov (.tmp 32), none⟩])
 (.cond (.tmp 30)
 (.seq
 (.reg [⟨some 33, .mov (.tmp 0), none⟩,
 ⟨some 34, .call (.func 16) [(.tmp 33), (.const (.int .i64 0)), (.func 21)], none⟩,
 ⟨some 2, .mov (.tmp 34), none⟩,
 ⟨some 3, .mov (.const (.int .i64 105)), none⟩])
 (.ret))
 (.seq
 (.reg [⟨some 36, .mov (.tmp 4), none⟩,
 ⟨some 37, .bin .eql .int (.tmp 36) (.const (.int .u8 34)), none⟩,
 ⟨some 35, .mov (.tmp 37), none⟩])
 (.cond (.tmp 35)
 (.seq
 (.reg [⟨some 38, .mov (.tmp 0), none⟩,
 ⟨some 39, .call (.func 23) [(.tmp 38)], none⟩,
 ⟨some 40, .ext (.tmp 39) 0, none⟩,
 ⟨some 41, .ext (.tmp 39) 1, none⟩,
 ⟨some 2, .mov (.tmp 40), none⟩,
 ⟨some 3, .mov (.tmp 41), none⟩])
 (.ret))
 (.seq
 (.dreg [⟨some 43, .mov (.tmp 0), none⟩,
 ⟨some 44, .slen true (.tmp 43), none⟩,
 ⟨some 45, .bin .gtr .int (.tmp 44) (.const (.int .i64 1)), none⟩,
 ⟨some 46, .mov (.tmp 45), none⟩,
 ⟨some 47, .call (.func 24) [], some (46, true)⟩,
 ⟨some 48, .mov (.tmp 0), some (46, true)⟩,
 ⟨some 49, .sslice (.tmp 48) none (some (.const (.int .i64 2))), some (46, true)⟩,
 ⟨some 50, .call (.func 22) [(.tmp 47), (.tmp 49)], some (46, true)⟩,
 ⟨some 51, .pick (.tmp 46) (.tmp 50) (.const (.bool false)), none⟩,
 ⟨some 42, .mov (.tmp 51), none⟩]
 [[], [0], [1], [2], [3, 3], [3], [5, 3], [4, 6, 4, 3], [3, 7], [8, 7]]
 [[0], [43], [44], [45], [46], [0, 46], [48, 46], [47, 49, 46], [46, 50], [51]])
 (.cond (.tmp 42)
 (.seq
 (.reg [⟨some 2, .mov (.const (.int .i64 2)), none⟩,
 ⟨some 3, .mov (.const (.int .i64 107)), none⟩])
 (.ret))
 (.seq
 (.reg [⟨some 53, .mov (.tmp 4), none⟩,
 ⟨some 54, .call (.func 25) [(.const (.string ⟨#[40, 41, 123, 125, 91, 93, 60, 62, 44, 59, 58, 46, 61, 43, 45, 42, 47, 33, 38, 124]⟩)), (.tmp 53)], none⟩,
 ⟨some 55, .bin .geq .int (.tmp 54) (.const (.int .i64 0)), none⟩,
 ⟨some 52, .mov (.tmp 55), none⟩])
 (.cond (.tmp 52)
 (.seq
 (.reg [⟨some 2, .mov (.const (.int .i64 1)), none⟩,
 ⟨some 3, .mov (.const (.int .i64 107)), none⟩])
 (.ret))
 (.skip)))))))))))))))))
 (.seq
 (.reg [⟨some 2, .mov (.const (.int .i64 1)), none⟩,
 ⟨some 3, .mov (.const (.int .i64 108)), none⟩])
 (.ret)))
theorem fn12 : Fun Tryd.prog 12 56 ac12 [.tmp 2, .tmp 3] := ⟨mixedL, Tryd.f12, _, Tryd.func12, rfl, by decide +kernel, rfl, by kernel_rfl, by kernel_rfl⟩
/- glossator/glossatorref1.FirstToken -/
def ac13_l0 : AC := .seq
 (.reg [⟨some 69, .bin .lss .int (.tmp 68) (.tmp 67), none⟩])
 (.seq
 (.cond (.tmp 69)
 (.skip)
 (.exit 0))
 (.seq
 (.block 1
 (.seq
 (.reg [⟨some 70, .iaddr 1 (.tmp 66) (.tmp 68), none⟩,
 ⟨some 71, .load false 1 (.tmp 70), none⟩,
 ⟨some 9, .mov (.tmp 71), none⟩])
 (.seq
 (.reg [⟨some 72, .load false 1 (.tmp 1), none⟩,
 ⟨some 73, .slen true (.tmp 72), none⟩,
 ⟨some 74, .mov (.tmp 9), none⟩,
 ⟨some 75, .slen true (.tmp 74), none⟩,
 ⟨some 76, .bin .geq .int (.tmp 73) (.tmp 75), none⟩,
 ⟨some 77, .mov (.tmp 76), none⟩,
 ⟨some 78, .load false 1 (.tmp 1), some (77, true)⟩,
 ⟨some 79, .mov (.tmp 9), some (77, true)⟩,
 ⟨some 80, .slen true (.tmp 79), some (77, true)⟩,
 ⟨some 81, .sslice (.tmp 78) none (some (.tmp 80)), some (77, true)⟩,
 ⟨some 82, .mov (.tmp 9), some (77, true)⟩,
 ⟨some 83, .bin .eql .str (.tmp 81) (.tmp 82), some (77, true)⟩,
 ⟨some 84, .pick (.tmp 77) (.tmp 83) (.const (.bool false)), none⟩])
 (.cond (.tmp 84)
 (.seq
 (.reg [⟨some 85, .mov (.tmp 3), none⟩,
 ⟨some 86, .mov (.tmp 9), none⟩,
 ⟨some 87, .slen true (.tmp 86), none⟩,
 ⟨some 88, .call (.tmp 85) [(.const (.int .i64 107)), (.tmp 87)], none⟩,
 ⟨none, .store 2 (.tmp 2) (.tmp 88), none⟩])
 (.ret))
 (.skip)))))
 (.reg [⟨some 89, .bin .add .int (.tmp 68) (.const (.int .i64 1)), none⟩,
 ⟨some 68, .mov (.tmp 89), none⟩])))
def ac13 : AC := .seq
 (.reg [⟨some 1, .box 9 1 (.tmp 0), none⟩,
 ⟨some 2, .alloc 30 2 [(.int .i64 0), (.string ⟨#[]⟩)], none⟩])
 (.seq
 (.reg [⟨some 10, .mkfn 26 [(.tmp 1)], none⟩,
 ⟨some 3, .mov (.tmp 10), none⟩])
 (.seq
 (.seq
 (.reg [⟨some 11, .load false 1 (.tmp 1), none⟩,
 ⟨some 12, .call (.func 27) [(.tmp 11), (.const (.int .i64 0))], none⟩,
 ⟨some 4, .mov (.tmp 12), none⟩])
 (.seq
 (.reg [⟨some 13, .mov (.tmp 4), none⟩,
 ⟨some 14, .bin .gtr .int (.tmp 13) (.const (.int .i64 0)), none⟩])
 (.cond (.tmp 14)
 (.seq
 (.reg [⟨some 15, .mov (.tmp 3), none⟩,
 ⟨some 16, .mov (.tmp 4), none⟩,
 ⟨some 17, .call (.tmp 15) [(.const (.int .i64 101)), (.tmp 16)], none⟩,
 ⟨none, .store 2 (.tmp 2) (.tmp 17), none⟩])
 (.ret))
 (.skip))))
 (.seq
 (.seq
 (.reg [⟨some 18, .load false 1 (.tmp 1), none⟩,
 ⟨some 19, .slen true (.tmp 18), none⟩,
 ⟨some 20, .bin .gtr .int (.tmp 19) (.const (.int .i64 1)), none⟩,
 ⟨some 21, .mov (.tmp 20), none⟩,
 ⟨some 22, .load false 1 (.tmp 1), some (21, true)⟩,
 ⟨some 23, .sslice (.tmp 22) none (some (.const (.int .i64 2))), some (21, true)⟩,
 ⟨some 24, .bin .eql .str (.tmp 23) (.const (.string ⟨#[47, 47]⟩)), some (21, true)⟩,
 ⟨some 25, .pick (.tmp 21) (.tmp 24) (.const (.bool false)), none⟩])
 (.cond (.tmp 25)
 (.seq
 (.reg [⟨some 26, .mov (.tmp 3), none⟩,
 ⟨some 27, .load false 1 (.tmp 1), none⟩,
 ⟨some 28, .call (.func 27) [(.tmp 27), (.const (.int .i64 1))], none⟩,
 ⟨some 29, .call (.tmp 26) [(.const (.int .i64 102)), (.tmp 28)], none⟩,
 ⟨none, .store 2 (.tmp 2) (.tmp 29), none⟩])
 (.ret))
 (.skip)))
 (.seq
 (.seq
 (.reg [⟨some 30, .load false 1 (.tmp 1), none⟩,
 ⟨some 31, .call (.func 27) [(.tmp 30), (.const (.int .i64 3))], none⟩,
 ⟨some 5, .mov (.tmp 31), none⟩])
 (.seq
 (.reg [⟨some 32, .mov (.tmp 5), none⟩,
 ⟨some 33, .bin .gtr .int (.tmp 32) (.const (.int .i64 0)), none⟩])
 (.cond (.tmp 33)
 (.seq
 (.reg [⟨some 34, .mov (.tmp 3), none⟩,
 ⟨some 35, .mov (.tmp 5), none⟩,
 ⟨some 36, .call (.tmp 34) [(.const (.int .i64 105)), (.tmp 35)], none⟩,
 ⟨none, .store 2 (.tmp 2) (.tmp 36), none⟩])
 (.ret))
 (.skip))))
 (.seq
 (.seq
 (.reg [⟨some 37, .load false 1 (.tmp 1), none⟩,
 ⟨some 38, .call (.func 27) [(.tmp 37), (.const (.int .i64 2))], none⟩,
 ⟨some 6, .mov (.tmp 38), none⟩])
 (.seq
 (.reg [⟨some 39, .mov (.tmp 6), none⟩,
 ⟨some 40, .bin .gtr .int (.tmp 39) (.const (.int .i64 0)), none⟩])
 (.cond (.tmp 40)
 (.seq
 (.seq
 (.dreg [⟨some 41, .call (.func 11) [], none⟩,
 ⟨some 42, .load false 1 (.tmp 1), none⟩,
 ⟨some 43, .mov (.tmp 6), none⟩,
 ⟨some 44, .sslice (.tmp 42) none (some (.tmp 43)), none⟩,
 ⟨some 45, .call (.func 28) [(.tmp 41), (.tmp 44)], none⟩]
 [[], [], [], [1, 2], [0, 3, 0]]
 [[], [1], [6], [42, 43], [41, 44]])
 (.cond (.tmp 45)
 (.seq
 (.reg [⟨some 46, .mov (.tmp 3), none⟩,
 ⟨some 47, .mov (.tmp 6), none⟩,
 ⟨some 48, .call (.tmp 46) [(.const (.int .i64 104)), (.tmp 47)], none⟩,
 ⟨none, .store 2 (.tmp 2) (.tmp 48), none⟩])
 (.ret))
 (.skip)))
 (.seq
 (.reg [⟨some 49, .mov (.tmp 3), none⟩,
 ⟨some 50, .mov (.tmp 6), none⟩,
 ⟨some 51, .call (.tmp 49) [(.const (.int .i64 103)), (.tmp 50)], none⟩,
 ⟨none, .store 2 (.tmp 2) (.tmp 51), none⟩])
 (.ret)))
 (.skip))))
 (.seq
 (.seq
 (.reg [⟨some 52, .load false 1 (.tmp 1), none⟩,
 ⟨some 53, .sindex (.tmp 52) (.const (.int .i64 0)), none⟩,
 ⟨some 54, .bin .eql .int (.tmp 53) (.const (.int .u8 34)), none⟩])
 (.cond (.tmp 54)
 (.seq
 (.seq
 (.reg [⟨some 55, .load false 1 (.tmp 1), none⟩,
 ⟨some 56, .call (.func 29) [(.tmp 55)], none⟩,
 ⟨some 7, .mov (.tmp 56), none⟩])
 (.seq
 (.reg [⟨some 57, .mov (.tmp 7), none⟩,
 ⟨some 58, .bin .gtr .int (.tmp 57) (.const (.int .i64 0)), none⟩])
 (.cond (.tmp 58)
 (.seq
 (.reg [⟨some 59, .mov (.tmp 3), none⟩,
 ⟨some 60, .mov (.tmp 7), none⟩,
 ⟨some 61, .call (.tmp 59) [(.const (.int .i64 106)), (.tmp 60)], none⟩,
 ⟨none, .store 2 (.tmp 2) (.tmp 61), none⟩])
 (.ret))
 (.skip))))
 (.seq
 (.reg [⟨some 62, .mov (.tmp 3), none⟩,
 ⟨some 63, .load false 1 (.tmp 1), none⟩,
 ⟨some 64, .call (.func 27) [(.tmp 63), (.const (.int .i64 1))], none⟩,
 ⟨some 65, .call (.tmp 62) [(.const (.int .i64 108)), (.tmp 64)], none⟩,
 ⟨none, .store 2 (.tmp 2) (.tmp 65), none⟩])
 (.ret)))
 (.skip)))
 (.seq
 (.seq
 (.reg [⟨some 66, .call (.func 30) [], none⟩,
 ⟨some 67, .slen false (.tmp 66), none⟩,
 ⟨some 68, .mov (.const (.int .i64 0)), none⟩])
 (.block 0
 (.loop ac13_l0)))
 (.seq
 (.reg [⟨some 90, .mov (.tmp 3), none⟩,
 ⟨some 91, .call (.tmp 90) [(.const (.int .i64 108)), (.const (.int .i64 1))], none⟩,
 ⟨none, .store 2 (.tmp 2) (.tmp 91), none⟩])
 (.ret)))))))))
theorem fn13 : Fun Tryd.prog 13 92 ac13 [.cell 2 2 true] := ⟨mixedL, Tryd.f13, _, Tryd.func13, rfl, by decide +kernel, rfl, by kernel_rfl, by kernel_rfl⟩
/- glossator/lexer.isSpace -/
def ac15 : AC := .seq
 (.reg [⟨some 2, .mov (.const (.bool false)), none⟩])
 (.seq
 (.reg [⟨some 3, .mov (.tmp 0), none⟩,
 ⟨some 4, .call (.func 25) [(.const (.string ⟨#[32, 9, 10, 13]⟩)), (.tmp 3)], none⟩,
 ⟨some 5, .bin .geq .int (.tmp 4) (.const (.int .i64 0)), none⟩,
 ⟨some 2, .mov (.tmp 5), none⟩])
 (.ret))
theorem fn15 : Fun Tryd.prog 15 6 ac15 [.tmp 2] := ⟨mixedL, Tryd.f15, _, Tryd.func15, rfl, by decide +kernel, rfl, by kernel_rfl, by kernel_rfl⟩
/- glossator/lexer.scan -/
def ac16_l0 : AC := .seq
 (.seq
 (.reg [⟨some 7, .mov (.tmp 1), none⟩,
 ⟨some 8, .mov (.tmp 0), none⟩,
 ⟨some 9, .slen true (.tmp 8), none⟩,
 ⟨some 10, .bin .lss .int (.tmp 7) (.tmp 9), none⟩,
 ⟨some 11, .mov (.tmp 10), none⟩,
 ⟨some 12, .mov (.tmp 2), some (11, true)⟩,
 ⟨some 13, .mov (.tmp 0), some (11, true)⟩,
 ⟨some 14, .mov (.tmp 1), some (11, true)⟩,
 ⟨some 15, .sindex (.tmp 13) (.tmp 14), some (11, true)⟩,
 ⟨some 16, .call (.tmp 12) [(.tmp 15)], some (11, true)⟩,
 ⟨some 17, .pick (.tmp 11) (.tmp 16) (.const (.bool false)), none⟩])
 (.cond (.tmp 17)
 (.skip)
 (.exit 0)))
 (.block 1
 (.reg [⟨some 18, .mov (.tmp 1), none⟩,
 ⟨some 19, .bin .add .int (.tmp 18) (.const (.int .i64 1)), none⟩,
 ⟨some 1, .mov (.tmp 19), none⟩]))
def ac16 : AC := .seq
 (.reg [⟨some 6, .mov (.const (.int .i64 0)), none⟩])
 (.seq
 (.block 0
 (.loop ac16_l0))
 (.seq
 (.reg [⟨some 20, .mov (.tmp 1), none⟩,
 ⟨some 6, .mov (.tmp 20), none⟩])
 (.ret)))
theorem fn16 : Fun Tryd.prog 16 21 ac16 [.tmp 6] := ⟨mixedL, Tryd.f16, _, Tryd.func16, rfl, by decide +kernel, rfl, by kernel_rfl, by kernel_rfl⟩
/- strings.HasPrefix -/
def ac17 : AC := .seq
 (.reg [⟨some 4, .mov (.const (.bool false)), none⟩])
 (.seq
 (.reg [⟨some 5, .mov (.tmp 0), none⟩,
 ⟨some 6, .mov (.tmp 1), none⟩,
 ⟨some 7, .call (.func 33) [(.tmp 5), (.tmp 6)], none⟩,
 ⟨some 4, .mov (.tmp 7), none⟩])
 (.ret))
theorem fn17 : Fun Tryd.prog 17 8 ac17 [.tmp 4] := ⟨mixedL, Tryd.f17, _, Tryd.func17, rfl, by decide +kernel, rfl, by kernel_rfl, by kernel_rfl⟩
/- glossator/lexer.First$1 -/
def ac18 : AC := .seq
 (.reg [⟨some 2, .mov (.const (.bool false)), none⟩])
 (.seq
 (.reg [⟨some 3, .mov (.tmp 0), none⟩,
 ⟨some 4, .bin .neq .int (.tmp 3) (.const (.int .u8 10)), none⟩,
 ⟨some 2, .mov (.tmp 4), none⟩])
 (.ret))
theorem fn18 : Fun Tryd.prog 18 5 ac18 [.tmp 2] := ⟨mixedL, Tryd.f18, _, Tryd.func18, rfl, by decide +kernel, rfl, by kernel_rfl, by kernel_rfl⟩
/- glossator/lexer.isLetter -/
def ac19 : AC := .seq
 (.reg [⟨some 2, .mov (.const (.bool false)), none⟩])
 (.seq
 (.reg [⟨some 3, .mov (.tmp 0), none⟩,
 ⟨some 4, .bin .geq .int (.tmp 3) (.const (.int .u8 97)), none⟩,
 ⟨some 5, .mov (.tmp 4), none⟩,
 ⟨some 6, .mov (.tmp 0), some (5, true)⟩,
 ⟨some 7, .bin .leq .int (.tmp 6) (.const (.int .u8 122)), some (5, true)⟩,
 ⟨some 8, .pick (.tmp 5) (.tmp 7) (.const (.bool false)), none⟩,
 ⟨some 9, .mov (.tmp 8), none⟩,
 ⟨some 10, .mov (.tmp 0), some (9, false)⟩,
 ⟨some 11, .bin .geq .int (.tmp 10) (.const (.int .u8 65)), some (9, false)⟩,
 ⟨some 12, .mov (.tmp 11), some (9, false)⟩,
 ⟨some 13, .mov (.tmp 0), some (12, true)⟩,
 ⟨some 14, .bin .leq .int (.tmp 13) (.const (.int .u8 90)), some (12, true)⟩,
 ⟨some 15, .pick (.tmp 12) (.tmp 14) (.const (.bool false)), some (9, false)⟩,
 ⟨some 16, .pick (.tmp 9) (.const (.bool true)) (.tmp 15), none⟩,
 ⟨some 17, .mov (.tmp 16), none⟩,
 ⟨some 18, .mov (.tmp 0), some (17, false)⟩,
 ⟨some 19, .bin .eql .int (.tmp 18) (.const (.int .u8 95)), some (17, false)⟩,
 ⟨some 20, .pick (.tmp 17) (.const (.bool true)) (.tmp 19), none⟩,
 ⟨some 2, .mov (.tmp 20), none⟩])
 (.ret))
theorem fn19 : Fun Tryd.prog 19 21 ac19 [.tmp 2] := ⟨mixedL, Tryd.f19, _, Tryd.func19, rfl, by decide +kernel, rfl, by kernel_rfl, by kernel_rfl⟩
/- glossator/lexer.First$2 -/
def ac20 : AC := .seq
 (.reg [⟨some 2, .mov (.const (.bool false)), none⟩])
 (.seq
 (.reg [⟨some 3, .mov (.tmp 0), none⟩,
 ⟨some 4, .call (.func 19) [(.tmp 3)], none⟩,
 ⟨some 5, .mov (.tmp 4), none⟩,
 ⟨some 6, .mov (.tmp 0), some (5, false)⟩,
 ⟨some 7, .call (.func 21) [(.tmp 6)], some (5, false)⟩,
 ⟨some 8, .pick (.tmp 5) (.const (.bool true)) (.tmp 7), none⟩,
 ⟨some 2, .mov (.tmp 8), none⟩])
 (.ret))
theorem fn20 : Fun Tryd.prog 20 9 ac20 [.tmp 2] := ⟨mixedL, Tryd.f20, _, Tryd.func20, rfl, by decide +kernel, rfl, by kernel_rfl, by kernel_rfl⟩
/- glossator/lexer.isDigit -/
def ac21 : AC := .seq
 (.reg [⟨some 2, .mov (.const (.bool false)), none⟩])
 (.seq
 (.reg [⟨some 3, .mov (.tmp 0), none⟩,
 ⟨some 4, .bin .geq .int (.tmp 3) (.const (.int .u8 48)), none⟩,
 ⟨some 5, .mov (.tmp 4), none⟩,
 ⟨some 6, .mov (.tmp 0), some (5, true)⟩,
 ⟨some 7, .bin .leq .int (.tmp 6) (.const (.int .u8 57)), some (5, true)⟩,
 ⟨some 8, .pick (.tmp 5) (.tmp 7) (.const (.bool false)), none⟩,
 ⟨some 2, .mov (.tmp 8), none⟩])
 (.ret))
theorem fn21 : Fun Tryd.prog 21 9 ac21 [.tmp 2] := ⟨mixedL, Tryd.f21, _, Tryd.func21, rfl, by decide +kernel, rfl, by kernel_rfl, by kernel_rfl⟩
/- slices.Contains[[]string,string] -/
def ac22 : AC := .seq
 (.reg [⟨some 4, .mov (.const (.bool false)), none⟩])
 (.seq
 (.reg [⟨some 5, .mov (.tmp 0), none⟩,
 ⟨some 6, .mov (.tmp 1), none⟩,
 ⟨some 7, .call (.func 34) [(.tmp 5), (.tmp 6)], none⟩,
 ⟨some 8, .bin .geq .int (.tmp 7) (.const (.int .i64 0)), none⟩,
 ⟨some 4, .mov (.tmp 8), none⟩])
 (.ret))
theorem fn22 : Fun Tryd.prog 22 9 ac22 [.tmp 4] := ⟨mixedL, Tryd.f22, _, Tryd.func22, rfl, by decide +kernel, rfl, by kernel_rfl, by kernel_rfl⟩
/- glossator/lexer.scanString -/
def ac23_l0 : AC := .seq
 (.seq
 (.reg [⟨some 5, .mov (.tmp 4), none⟩,
 ⟨some 6, .mov (.tmp 0), none⟩,
 ⟨some 7, .slen true (.tmp 6), none⟩,
 ⟨some 8, .bin .lss .int (.tmp 5) (.tmp 7), none⟩,
 ⟨some 9, .mov (.tmp 8), none⟩,
 ⟨some 10, .mov (.tmp 0), some (9, true)⟩,
 ⟨some 11, .mov (.tmp 4), some (9, true)⟩,
 ⟨some 12, .sindex (.tmp 10) (.tmp 11), some (9, true)⟩,
 ⟨some 13, .bin .neq .int (.tmp 12) (.const (.int .u8 10)), some (9, true)⟩,
 ⟨some 14, .pick (.tmp 9) (.tmp 13) (.const (.bool false)), none⟩])
 (.cond (.tmp 14)
 (.skip)
 (.exit 0)))
 (.seq
 (.block 1
 (.block 2
 (.seq
 (.reg [⟨some 18, .mov (.tmp 0), none⟩,
 ⟨some 19, .mov (.tmp 4), none⟩,
 ⟨some 20, .sindex (.tmp 18) (.tmp 19), none⟩,
 ⟨some 21, .bin .eql .int (.tmp 20) (.const (.int .u8 34)), none⟩,
 ⟨some 17, .mov (.tmp 21), none⟩])
 (.cond (.tmp 17)
 (.seq
 (.reg [⟨some 22, .mov (.tmp 4), none⟩,
 ⟨some 23, .bin .add .int (.tmp 22) (.const (.int .i64 1)), none⟩,
 ⟨some 2, .mov (.tmp 23), none⟩,
 ⟨some 3, .mov (.const (.int .i64 106)), none⟩])
 (.ret))
 (.seq
 (.reg [⟨some 25, .mov (.tmp 0), none⟩,
 ⟨some 26, .mov (.tmp 4), none⟩,
 ⟨some 27, .sindex (.tmp 25) (.tmp 26), none⟩,
 ⟨some 28, .bin .eql .int (.tmp 27) (.const (.int .u8 92)), none⟩,
 ⟨some 29, .mov (.tmp 28), none⟩,
 ⟨some 30, .mov (.tmp 4), some (29, true)⟩,
 ⟨some 31, .bin .add .int (.tmp 30) (.const (.int .i64 1)), some (29, true)⟩,
 ⟨some 32, .mov (.tmp 0), some (29, true)⟩,
 ⟨some 33, .slen true (.tmp 32), some (29, true)⟩,
 ⟨some 34, .bin .lss .int (.tmp 31) (.tmp 33), some (29, true)⟩,
 ⟨some 35, .pick (.tmp 29) (.tmp 34) (.const (.bool false)), none⟩,
 ⟨some 36, .mov (.tmp 35), none⟩,
 ⟨some 37, .mov (.tmp 0), some (36, true)⟩,
 ⟨some 38, .mov (.tmp 4), some (36, true)⟩,
 ⟨some 39, .bin .add .int (.tmp 38) (.const (.int .i64 1)), some (36, true)⟩,
 ⟨some 40, .sindex (.tmp 37) (.tmp 39), some (36, true)⟩,
 ⟨some 41, .bin .neq .int (.tmp 40) (.const (.int .u8 10)), some (36, true)⟩,
 ⟨some 42, .pick (.tmp 36) (.tmp 41) (.const (.bool false)), none⟩,
 ⟨some 24, .mov (.tmp 42), none⟩])
 (.cond (.tmp 24)
 (.reg [⟨some 43, .mov (.tmp 4), none⟩,
 ⟨some 44, .bin .add .int (.tmp 43) (.const (.int .i64 1)), none⟩,
 ⟨some 4, .mov (.tmp 44), none⟩])
 (.skip)))))))
 (.reg [⟨some 15, .mov (.tmp 4), none⟩,
 ⟨some 16, .bin .add .int (.tmp 15) (.const (.int .i64 1)), none⟩,
 ⟨some 4, .mov (.tmp 16), none⟩]))
def ac23 : AC := .seq
 (.reg [⟨some 2, .mov (.const (.int .i64 0)), none⟩,
 ⟨some 3, .mov (.const (.int .i64 0)), none⟩])
 (.seq
 (.seq
 (.reg [⟨some 4, .mov (.const (.int .i64 1)), none⟩])
 (.block 0
 (.loop ac23_l0)))
 (.seq
 (.reg [⟨some 45, .mov (.tmp 0), none⟩,
 ⟨some 46, .call (.func 16) [(.tmp 45), (.const (.int .i64 1)), (.func 35)], none⟩,
 ⟨some 2, .mov (.tmp 46), none⟩,
 ⟨some 3, .mov (.const (.int .i64 108)), none⟩])
 (.ret)))
theorem fn23 : Fun Tryd.prog 23 47 ac23 [.tmp 2, .tmp 3] := ⟨mixedL, Tryd.f23, _, Tryd.func23, rfl, by decide +kernel, rfl, by kernel_rfl, by kernel_rfl⟩
/- glossator/lexer.twoBytePunct -/
def ac24 : AC := .seq
 (.reg [⟨some 0, .mov (.const (.slice none 0 0)), none⟩])
 (.seq
 (.reg [⟨some 1, .call (.func 14) [(.const (.string ⟨#[58, 58, 32, 61, 62, 32, 45, 62, 32, 61, 61, 32, 38, 38, 32, 124, 124]⟩))], none⟩,
 ⟨some 0, .mov (.tmp 1), none⟩])
 (.ret))
theorem fn24 : Fun Tryd.prog 24 2 ac24 [.tmp 0] := ⟨mixedL, Tryd.f24, _, Tryd.func24, rfl, by decide +kernel, rfl, by kernel_rfl, by kernel_rfl⟩
/- strings.IndexByte -/
def ac25 : AC := .seq
 (.reg [⟨some 4, .mov (.const (.int .i64 0)), none⟩])
 (.seq
 (.reg [⟨some 5, .mov (.tmp 0), none⟩,
 ⟨some 6, .mov (.tmp 1), none⟩,
 ⟨some 7, .call (.func 36) [(.tmp 5), (.tmp 6)], none⟩,
 ⟨some 4, .mov (.tmp 7), none⟩])
 (.ret))
theorem fn25 : Fun Tryd.prog 25 8 ac25 [.tmp 4] := ⟨mixedL, Tryd.f25, _, Tryd.func25, rfl, by decide +kernel, rfl, by kernel_rfl, by kernel_rfl⟩
/- glossator/glossatorref1.FirstToken$1 -/
def ac26 : AC := .seq
 (.reg [⟨some 5, .alloc 30 2 [(.int .i64 0), (.string ⟨#[]⟩)], none⟩])
 (.seq
 (.reg [⟨some 6, .mov (.tmp 0), none⟩,
 ⟨some 7, .load false 1 (.tmp 2), none⟩,
 ⟨some 8, .mov (.tmp 1), none⟩,
 ⟨some 9, .sslice (.tmp 7) none (some (.tmp 8)), none⟩,
 ⟨some 10, .build [(.int .i64 0), (.string ⟨#[]⟩)] [(0, 1), (1, 1)] [(0, (.tmp 6)), (1, (.tmp 9))], none⟩,
 ⟨none, .store 2 (.tmp 5) (.tmp 10), none⟩])
 (.ret))
theorem fn26 : Fun Tryd.prog 26 11 ac26 [.cell 5 2 true] := ⟨mixedL, Tryd.f26, _, Tryd.func26, rfl, by decide +kernel, rfl, by kernel_rfl, by kernel_rfl⟩
/- glossator/glossatorref1.run -/
def ac27_l0 : AC := .seq
 (.seq
 (.reg [⟨some 8, .mov (.tmp 5), none⟩,
 ⟨some 9, .mov (.tmp 0), none⟩,
 ⟨some 10, .slen true (.tmp 9), none⟩,
 ⟨some 11, .bin .lss .int (.tmp 8) (.tmp 10), none⟩])
 (.cond (.tmp 11)
 (.skip)
 (.exit 0)))
 (.seq
 (.block 1
 (.seq
 (.reg [⟨some 14, .mov (.tmp 0), none⟩,
 ⟨some 15, .mov (.tmp 5), none⟩,
 ⟨some 16, .sindex (.tmp 14) (.tmp 15), none⟩,
 ⟨some 6, .mov (.tmp 16), none⟩])
 (.seq
 (.reg [⟨some 17, .mov (.tmp 6), none⟩,
 ⟨some 18, .bin .neq .int (.tmp 17) (.const (.int .u8 10)), none⟩,
 ⟨some 7, .mov (.tmp 18), none⟩])
 (.seq
 (.seq
 (.reg [⟨some 19, .mov (.tmp 1), none⟩])
 (.block 2
 (.seq
 (.reg [⟨some 21, .bin .eql .int (.tmp 19) (.const (.int .i64 0)), none⟩,
 ⟨some 20, .mov (.tmp 21), none⟩])
 (.cond (.tmp 20)
 (.reg [⟨some 22, .mov (.tmp 6), none⟩,
 ⟨some 23, .bin .eql .int (.tmp 22) (.const (.int .u8 32)), none⟩,
 ⟨some 24, .mov (.tmp 23), none⟩,
 ⟨some 25, .mov (.tmp 6), some (24, false)⟩,
 ⟨some 26, .bin .eql .int (.tmp 25) (.const (.int .u8 9)), some (24, false)⟩,
 ⟨some 27, .pick (.tmp 24) (.const (.bool true)) (.tmp 26), none⟩,
 ⟨some 28, .mov (.tmp 27), none⟩,
 ⟨some 29, .mov (.tmp 6), some (28, false)⟩,
 ⟨some 30, .bin .eql .int (.tmp 29) (.const (.int .u8 10)), some (28, false)⟩,
 ⟨some 31, .pick (.tmp 28) (.const (.bool true)) (.tmp 30), none⟩,
 ⟨some 32, .mov (.tmp 31), none⟩,
 ⟨some 33, .mov (.tmp 6), some (32, false)⟩,
 ⟨some 34, .bin .eql .int (.tmp 33) (.const (.int .u8 13)), some (32, false)⟩,
 ⟨some 35, .pick (.tmp 32) (.const (.bool true)) (.tmp 34), none⟩,
 ⟨some 7, .mov (.tmp 35), none⟩])
 (.seq
 (.reg [⟨some 37, .bin .eql .int (.tmp 19) (.const (.int .i64 2)), none⟩,
 ⟨some 36, .mov (.tmp 37), none⟩])
 (.cond (.tmp 36)
 (.reg [⟨some 38, .mov (.tmp 6), none⟩,
 ⟨some 39, .call (.func 37) [(.tmp 38)], none⟩,
 ⟨some 7, .mov (.tmp 39), none⟩])
 (.seq
 (.reg [⟨some 41, .bin .eql .int (.tmp 19) (.const (.int .i64 3)), none⟩,
 ⟨some 40, .mov (.tmp 41), none⟩])
 (.cond (.tmp 40)
 (.reg [⟨some 42, .mov (.tmp 6), none⟩,
 ⟨some 43, .bin .geq .int (.tmp 42) (.const (.int .u8 48)), none⟩,
 ⟨some 44, .mov (.tmp 43), none⟩,
 ⟨some 45, .mov (.tmp 6), some (44, true)⟩,
 ⟨some 46, .bin .leq .int (.tmp 45) (.const (.int .u8 57)), some (44, true)⟩,
 ⟨some 47, .pick (.tmp 44) (.tmp 46) (.const (.bool false)), none⟩,
 ⟨some 7, .mov (.tmp 47), none⟩])
 (.skip)))))))))
 (.seq
 (.reg [⟨some 48, .mov (.tmp 7), none⟩,
 ⟨some 49, .un .not (.tmp 48), none⟩])
 (.cond (.tmp 49)
 (.seq
 (.reg [⟨some 50, .mov (.tmp 5), none⟩,
 ⟨some 4, .mov (.tmp 50), none⟩])
 (.ret))
 (.skip)))))))
 (.reg [⟨some 12, .mov (.tmp 5), none⟩,
 ⟨some 13, .bin .add .int (.tmp 12) (.const (.int .i64 1)), none⟩,
 ⟨some 5, .mov (.tmp 13), none⟩]))
def ac27 : AC := .seq
 (.reg [⟨some 4, .mov (.const (.int .i64 0)), none⟩])
 (.seq
 (.seq
 (.reg [⟨some 5, .mov (.const (.int .i64 0)), none⟩])
 (.block 0
 (.loop ac27_l0)))
 (.seq
 (.reg [⟨some 51, .mov (.tmp 0), none⟩,
 ⟨some 52, .slen true (.tmp 51), none⟩,
 ⟨some 4, .mov (.tmp 52), none⟩])
 (.ret)))
theorem fn27 : Fun Tryd.prog 27 53 ac27 [.tmp 4] := ⟨mixedL, Tryd.f27, _, Tryd.func27, rfl, by decide +kernel, rfl, by kernel_rfl, by kernel_rfl⟩
/- glossator/glossatorref1.Contains[string] -/
def ac28_l0 : AC := .seq
 (.reg [⟨some 10, .bin .lss .int (.tmp 9) (.tmp 8), none⟩])
 (.seq
 (.cond (.tmp 10)
 (.skip)
 (.exit 0))
 (.seq
 (.block 1
 (.seq
 (.reg [⟨some 11, .iaddr 1 (.tmp 7) (.tmp 9), none⟩,
 ⟨some 12, .load false 1 (.tmp 11), none⟩,
 ⟨some 6, .mov (.tmp 12), none⟩])
 (.seq
 (.reg [⟨some 13, .mov (.tmp 1), none⟩,
 ⟨some 14, .mov (.tmp 6), none⟩,
 ⟨some 15, .bin .eql .str (.tmp 13) (.tmp 14), none⟩])
 (.cond (.tmp 15)
 (.seq
 (.reg [⟨some 4, .mov (.const (.bool true)), none⟩])
 (.ret))
 (.skip)))))
 (.reg [⟨some 16, .bin .add .int (.tmp 9) (.const (.int .i64 1)), none⟩,
 ⟨some 9, .mov (.tmp 16), none⟩])))
def ac28 : AC := .seq
 (.reg [⟨some 4, .mov (.const (.bool false)), none⟩])
 (.seq
 (.seq
 (.reg [⟨some 7, .mov (.tmp 0), none⟩,
 ⟨some 8, .slen false (.tmp 7), none⟩,
 ⟨some 9, .mov (.const (.int .i64 0)), none⟩])
 (.block 0
 (.loop ac28_l0)))
 (.seq
 (.reg [⟨some 4, .mov (.const (.bool false)), none⟩])
 (.ret)))
theorem fn28 : Fun Tryd.prog 28 17 ac28 [.tmp 4] := ⟨mixedL, Tryd.f28, _, Tryd.func28, rfl, by decide +kernel, rfl, by kernel_rfl, by kernel_rfl⟩
/- glossator/glossatorref1.literal -/
def ac29_l0 : AC := .seq
 (.seq
 (.reg [⟨some 5, .mov (.tmp 4), none⟩,
 ⟨some 6, .mov (.tmp 0), none⟩,
 ⟨some 7, .slen true (.tmp 6), none⟩,
 ⟨some 8, .bin .lss .int (.tmp 5) (.tmp 7), none⟩,
 ⟨some 9, .mov (.tmp 8), none⟩,
 ⟨some 10, .mov (.tmp 0), some (9, true)⟩,
 ⟨some 11, .mov (.tmp 4), some (9, true)⟩,
 ⟨some 12, .sindex (.tmp 10) (.tmp 11), some (9, true)⟩,
 ⟨some 13, .bin .neq .int (.tmp 12) (.const (.int .u8 10)), some (9, true)⟩,
 ⟨some 14, .pick (.tmp 9) (.tmp 13) (.const (.bool false)), none⟩])
 (.cond (.tmp 14)
 (.skip)
 (.exit 0)))
 (.seq
 (.block 1
 (.seq
 (.seq
 (.reg [⟨some 17, .mov (.tmp 0), none⟩,
 ⟨some 18, .mov (.tmp 4), none⟩,
 ⟨some 19, .sindex (.tmp 17) (.tmp 18), none⟩,
 ⟨some 20, .bin .eql .int (.tmp 19) (.const (.int .u8 34)), none⟩,
 ⟨some 21, .mov (.tmp 20), none⟩,
 ⟨some 22, .mov (.tmp 3), some (21, true)⟩,
 ⟨some 23, .un .not (.tmp 22), some (21, true)⟩,
 ⟨some 24, .pick (.tmp 21) (.tmp 23) (.const (.bool false)), none⟩])
 (.cond (.tmp 24)
 (.seq
 (.reg [⟨some 25, .mov (.tmp 4), none⟩,
 ⟨some 26, .bin .add .int (.tmp 25) (.const (.int .i64 1)), none⟩,
 ⟨some 2, .mov (.tmp 26), none⟩])
 (.ret))
 (.skip)))
 (.reg [⟨some 27, .mov (.tmp 0), none⟩,
 ⟨some 28, .mov (.tmp 4), none⟩,
 ⟨some 29, .sindex (.tmp 27) (.tmp 28), none⟩,
 ⟨some 30, .bin .eql .int (.tmp 29) (.const (.int .u8 92)), none⟩,
 ⟨some 31, .mov (.tmp 30), none⟩,
 ⟨some 32, .mov (.tmp 3), some (31, true)⟩,
 ⟨some 33, .un .not (.tmp 32), some (31, true)⟩,
 ⟨some 34, .pick (.tmp 31) (.tmp 33) (.const (.bool false)), none⟩,
 ⟨some 3, .mov (.tmp 34), none⟩])))
 (.reg [⟨some 15, .mov (.tmp 4), none⟩,
 ⟨some 16, .bin .add .int (.tmp 15) (.const (.int .i64 1)), none⟩,
 ⟨some 4, .mov (.tmp 16), none⟩]))
def ac29 : AC := .seq
 (.reg [⟨some 2, .mov (.const (.int .i64 0)), none⟩])
 (.seq
 (.reg [⟨some 3, .mov (.const (.bool false)), none⟩])
 (.seq
 (.seq
 (.reg [⟨some 4, .mov (.const (.int .i64 1)), none⟩])
 (.block 0
 (.loop ac29_l0)))
 (.seq
 (.reg [⟨some 2, .mov (.const (.int .i64 0)), none⟩])
 (.ret))))
theorem fn29 : Fun Tryd.prog 29 35 ac29 [.tmp 2] := ⟨mixedL, Tryd.f29, _, Tryd.func29, rfl, by decide +kernel, rfl, by kernel_rfl, by kernel_rfl⟩
/- glossator/glossatorref1.Puncts -/
def ac30 : AC := .seq
 (.reg [⟨some 0, .mov (.const (.slice none 0 0)), none⟩])
 (.seq
 (.reg [⟨some 1, .bslice 9 1 [(.string ⟨#[]⟩)] 26 [(0, (.const (.string ⟨#[58, 58]⟩))), (1, (.const (.string ⟨#[61, 62]⟩))), (2, (.const (.string ⟨#[45, 62]⟩))), (3, (.const (.string ⟨#[61, 61]⟩))), (4, (.const (.string ⟨#[38, 38]⟩))), (5, (.const (.string ⟨#[124, 124]⟩))), (6, (.const (.string ⟨#[40]⟩))), (7, (.const (.string ⟨#[41]⟩))), (8, (.const (.string ⟨#[123]⟩))), (9, (.const (.string ⟨#[125]⟩))), (10, (.const (.string ⟨#[91]⟩))), (11, (.const (.string ⟨#[93]⟩))), (12, (.const (.string ⟨#[60]⟩))), (13, (.const (.string ⟨#[62]⟩))), (14, (.const (.string ⟨#[44]⟩))), (15, (.const (.string ⟨#[59]⟩))), (16, (.const (.string ⟨#[58]⟩))), (17, (.const (.string ⟨#[46]⟩))), (18, (.const (.string ⟨#[61]⟩))), (19, (.const (.string ⟨#[43]⟩))), (20, (.const (.string ⟨#[45]⟩))), (21, (.const (.string ⟨#[42]⟩))), (22, (.const (.string ⟨#[47]⟩))), (23, (.const (.string ⟨#[33]⟩))), (24, (.const (.string ⟨#[38]⟩))), (25, (.const (.string ⟨#[124]⟩)))], none⟩,
 ⟨some 0, .mov (.tmp 1), none⟩])
 (.ret))
theorem fn30 : Fun Tryd.prog 30 2 ac30 [.tmp 0] := ⟨mixedL, Tryd.f30, _, Tryd.func30, rfl, by decide +kernel, rfl, by kernel_rfl, by kernel_rfl⟩
/- internal/stringslite.HasPrefix -/
def ac33 : AC := .seq
 (.reg [⟨some 4, .mov (.const (.bool false)), none⟩])
 (.seq
 (.reg [⟨some 5, .mov (.tmp 0), none⟩,
 ⟨some 6, .slen true (.tmp 5), none⟩,
 ⟨some 7, .mov (.tmp 1), none⟩,
 ⟨some 8, .slen true (.tmp 7), none⟩,
 ⟨some 9, .bin .geq .int (.tmp 6) (.tmp 8), none⟩,
 ⟨some 10, .mov (.tmp 9), none⟩,
 ⟨some 11, .mov (.tmp 0), some (10, true)⟩,
 ⟨some 12, .mov (.tmp 1), some (10, true)⟩,
 ⟨some 13, .slen true (.tmp 12), some (10, true)⟩,
 ⟨some 14, .sslice (.tmp 11) none (some (.tmp 13)), some (10, true)⟩,
 ⟨some 15, .mov (.tmp 1), some (10, true)⟩,
 ⟨some 16, .bin .eql .str (.tmp 14) (.tmp 15), some (10, true)⟩,
 ⟨some 17, .pick (.tmp 10) (.tmp 16) (.const (.bool false)), none⟩,
 ⟨some 4, .mov (.tmp 17), none⟩])
 (.ret))
theorem fn33 : Fun Tryd.prog 33 18 ac33 [.tmp 4] := ⟨mixedL, Tryd.f33, _, Tryd.func33, rfl, by decide +kernel, rfl, by kernel_rfl, by kernel_rfl⟩
/- slices.Index[[]string,string] -/
def ac34_l0 : AC := .seq
 (.reg [⟨some 9, .bin .lss .int (.tmp 8) (.tmp 7), none⟩])
 (.seq
 (.cond (.tmp 9)
 (.skip)
 (.exit 0))
 (.seq
 (.block 1
 (.seq
 (.reg [⟨some 10, .mov (.tmp 8), none⟩,
 ⟨some 5, .mov (.tmp 10), none⟩])
 (.seq
 (.reg [⟨some 11, .mov (.tmp 1), none⟩,
 ⟨some 12, .mov (.tmp 0), none⟩,
 ⟨some 13, .mov (.tmp 5), none⟩,
 ⟨some 14, .iaddr 1 (.tmp 12) (.tmp 13), none⟩,
 ⟨some 15, .load false 1 (.tmp 14), none⟩,
 ⟨some 16, .bin .eql .str (.tmp 11) (.tmp 15), none⟩])
 (.cond (.tmp 16)
 (.seq
 (.reg [⟨some 17, .mov (.tmp 5), none⟩,
 ⟨some 4, .mov (.tmp 17), none⟩])
 (.ret))
 (.skip)))))
 (.reg [⟨some 18, .bin .add .int (.tmp 8) (.const (.int .i64 1)), none⟩,
 ⟨some 8, .mov (.tmp 18), none⟩])))
def ac34 : AC := .seq
 (.reg [⟨some 4, .mov (.const (.int .i64 0)), none⟩])
 (.seq
 (.seq
 (.reg [⟨some 6, .mov (.tmp 0), none⟩,
 ⟨some 7, .slen false (.tmp 6), none⟩,
 ⟨some 8, .mov (.const (.int .i64 0)), none⟩])
 (.block 0
 (.loop ac34_l0)))
 (.seq
 (.reg [⟨some 4, .mov (.const (.int .i64 (-1))), none⟩])
 (.ret)))
theorem fn34 : Fun Tryd.prog 34 19 ac34 [.tmp 4] := ⟨mixedL, Tryd.f34, _, Tryd.func34, rfl, by decide +kernel, rfl, by kernel_rfl, by kernel_rfl⟩
/- glossator/lexer.scanString$1 -/
def ac35 : AC := .seq
 (.reg [⟨some 2, .mov (.const (.bool false)), none⟩])
 (.seq
 (.reg [⟨some 3, .mov (.tmp 0), none⟩,
 ⟨some 4, .bin .neq .int (.tmp 3) (.const (.int .u8 10)), none⟩,
 ⟨some 2, .mov (.tmp 4), none⟩])
 (.ret))
theorem fn35 : Fun Tryd.prog 35 5 ac35 [.tmp 2] := ⟨mixedL, Tryd.f35, _, Tryd.func35, rfl, by decide +kernel, rfl, by kernel_rfl, by kernel_rfl⟩
/- internal/stringslite.IndexByte -/
def ac36 : AC := .seq
 (.reg [⟨some 4, .mov (.const (.int .i64 0)), none⟩])
 (.seq
 (.reg [⟨some 5, .mov (.tmp 0), none⟩,
 ⟨some 6, .mov (.tmp 1), none⟩,
 ⟨some 7, .call (.func 39) [(.tmp 5), (.tmp 6)], none⟩,
 ⟨some 4, .mov (.tmp 7), none⟩])
 (.ret))
theorem fn36 : Fun Tryd.prog 36 8 ac36 [.tmp 4] := ⟨mixedL, Tryd.f36, _, Tryd.func36, rfl, by decide +kernel, rfl, by kernel_rfl, by kernel_rfl⟩
/- glossator/glossatorref1.isWordByte -/
def ac37 : AC := .seq
 (.reg [⟨some 2, .mov (.const (.bool false)), none⟩])
 (.seq
 (.reg [⟨some 3, .mov (.tmp 0), none⟩,
 ⟨some 4, .bin .geq .int (.tmp 3) (.const (.int .u8 97)), none⟩,
 ⟨some 5, .mov (.tmp 4), none⟩,
 ⟨some 6, .mov (.tmp 0), some (5, true)⟩,
 ⟨some 7, .bin .leq .int (.tmp 6) (.const (.int .u8 122)), some (5, true)⟩,
 ⟨some 8, .pick (.tmp 5) (.tmp 7) (.const (.bool false)), none⟩,
 ⟨some 9, .mov (.tmp 8), none⟩,
 ⟨some 10, .mov (.tmp 0), some (9, false)⟩,
 ⟨some 11, .bin .geq .int (.tmp 10) (.const (.int .u8 65)), some (9, false)⟩,
 ⟨some 12, .mov (.tmp 11), some (9, false)⟩,
 ⟨some 13, .mov (.tmp 0), some (12, true)⟩,
 ⟨some 14, .bin .leq .int (.tmp 13) (.const (.int .u8 90)), some (12, true)⟩,
 ⟨some 15, .pick (.tmp 12) (.tmp 14) (.const (.bool false)), some (9, false)⟩,
 ⟨some 16, .pick (.tmp 9) (.const (.bool true)) (.tmp 15), none⟩,
 ⟨some 17, .mov (.tmp 16), none⟩,
 ⟨some 18, .mov (.tmp 0), some (17, false)⟩,
 ⟨some 19, .bin .eql .int (.tmp 18) (.const (.int .u8 95)), some (17, false)⟩,
 ⟨some 20, .pick (.tmp 17) (.const (.bool true)) (.tmp 19), none⟩,
 ⟨some 21, .mov (.tmp 20), none⟩,
 ⟨some 22, .mov (.tmp 0), some (21, false)⟩,
 ⟨some 23, .bin .geq .int (.tmp 22) (.const (.int .u8 48)), some (21, false)⟩,
 ⟨some 24, .mov (.tmp 23), some (21, false)⟩,
 ⟨some 25, .mov (.tmp 0), some (24, true)⟩,
 ⟨some 26, .bin .leq .int (.tmp 25) (.const (.int .u8 57)), some (24, true)⟩,
 ⟨some 27, .pick (.tmp 24) (.tmp 26) (.const (.bool false)), some (21, false)⟩,
 ⟨some 28, .pick (.tmp 21) (.const (.bool true)) (.tmp 27), none⟩,
 ⟨some 2, .mov (.tmp 28), none⟩])
 (.ret))
theorem fn37 : Fun Tryd.prog 37 29 ac37 [.tmp 2] := ⟨mixedL, Tryd.f37, _, Tryd.func37, rfl, by decide +kernel, rfl, by kernel_rfl, by kernel_rfl⟩
end Go.Proofs.YtljpmkaecfollaaDoor
