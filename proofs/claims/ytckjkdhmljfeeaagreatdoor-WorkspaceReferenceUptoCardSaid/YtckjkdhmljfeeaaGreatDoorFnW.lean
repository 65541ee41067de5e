/- The compact texts of the functions, printed by a program of mine (wip/tools/PrintFn.lean); each is shown to be what the translation compiles to. -/
import Derived.Test.YtckjkdhmljfeeaaGreatDoorK2
import Derived.Test.YtckjkdhmljfeeaaGreatDoorProg
set_option maxRecDepth 100000
namespace Go.Proofs.YtckjkdhmljfeeaaGreatDoor
open Go Go.Ab
theorem mixedW : Tryz.prog.follows .mixedOrders = true := by kernel_rfl
/- glossator/glossatorlaw1.WorkspaceReference -/
def ac6 : AC := .seq
 (.reg [⟨some 4, .mov (.const (.bool false)), none⟩])
 (.seq
 (.seq
 (.reg [⟨some 5, .call (.func 17) [], none⟩,
 ⟨some 6, .un .not (.tmp 5), none⟩])
 (.cond (.tmp 6)
 (.seq
 (.reg [⟨some 4, .mov (.const (.bool false)), none⟩])
 (.ret))
 (.skip)))
 (.seq
 (.reg [⟨some 7, .mov (.tmp 0), none⟩,
 ⟨some 8, .call (.func 18) [(.tmp 7)], none⟩,
 ⟨some 9, .mov (.tmp 0), none⟩,
 ⟨some 10, .call (.func 19) [(.tmp 9)], none⟩,
 ⟨some 11, .bin .eql .int (.tmp 8) (.tmp 10), none⟩,
 ⟨some 12, .mov (.tmp 11), none⟩,
 ⟨some 13, .mov (.tmp 0), some (12, true)⟩,
 ⟨some 14, .mov (.tmp 1), some (12, true)⟩,
 ⟨some 15, .call (.func 20) [(.tmp 13), (.tmp 14)], some (12, true)⟩,
 ⟨some 16, .mov (.tmp 0), some (12, true)⟩,
 ⟨some 17, .mov (.tmp 1), some (12, true)⟩,
 ⟨some 18, .call (.func 21) [(.tmp 16), (.tmp 17)], some (12, true)⟩,
 ⟨some 19, .bin .eql .int (.tmp 15) (.tmp 18), some (12, true)⟩,
 ⟨some 20, .pick (.tmp 12) (.tmp 19) (.const (.bool false)), none⟩,
 ⟨some 4, .mov (.tmp 20), none⟩])
 (.ret)))
theorem fn6 : Fun Tryz.prog 6 21 ac6 [.tmp 4] := ⟨mixedW, Tryz.f6, _, Tryz.func6, rfl, by decide +kernel, rfl, by kernel_rfl, by kernel_rfl⟩
/- glossator/workspace.Validate -/
def ac18_l0 : AC := .seq
 (.reg [⟨some 17, .bin .lss .int (.tmp 16) (.tmp 15), none⟩])
 (.seq
 (.cond (.tmp 17)
 (.skip)
 (.exit 0))
 (.seq
 (.block 1
 (.seq
 (.reg [⟨some 18, .mov (.tmp 16), none⟩,
 ⟨some 19, .iaddr 2 (.tmp 14) (.tmp 16), none⟩,
 ⟨some 20, .load true 2 (.tmp 19), none⟩,
 ⟨some 4, .alloc 69 2 [(.string ⟨#[]⟩), (.string ⟨#[]⟩)], none⟩,
 ⟨some 3, .mov (.tmp 18), none⟩,
 ⟨none, .store 2 (.tmp 4) (.tmp 20), none⟩])
 (.seq
 (.dreg [⟨some 21, .mov (.tmp 0), none⟩,
 ⟨some 22, .mov (.tmp 3), none⟩,
 ⟨some 23, .slice 2 (.tmp 21) none (some (.tmp 22)) none, none⟩,
 ⟨some 24, .faddr 0 (.tmp 4), none⟩,
 ⟨some 25, .load false 1 (.tmp 24), none⟩,
 ⟨some 26, .call (.func 20) [(.tmp 23), (.tmp 25)], none⟩,
 ⟨some 27, .bin .geq .int (.tmp 26) (.const (.int .i64 0)), none⟩]
 [[], [], [0, 1], [], [3], [2, 4], [5]]
 [[0], [3], [21, 22], [4], [24], [23, 25], [26]])
 (.cond (.tmp 27)
 (.seq
 (.reg [⟨some 2, .mov (.const (.int .i64 6)), none⟩])
 (.ret))
 (.skip)))))
 (.reg [⟨some 28, .bin .add .int (.tmp 16) (.const (.int .i64 1)), none⟩,
 ⟨some 16, .mov (.tmp 28), none⟩])))
def ac18 : AC := .seq
 (.reg [⟨some 2, .mov (.const (.int .i64 0)), none⟩])
 (.seq
 (.seq
 (.reg [⟨some 5, .mov (.tmp 0), none⟩,
 ⟨some 6, .slen false (.tmp 5), none⟩,
 ⟨some 7, .bin .gtr .int (.tmp 6) (.const (.int .i64 8)), none⟩,
 ⟨some 8, .mov (.tmp 7), none⟩,
 ⟨some 9, .mov (.tmp 0), some (8, false)⟩,
 ⟨some 10, .call (.func 41) [(.tmp 9), (.func 42)], some (8, false)⟩,
 ⟨some 11, .pick (.tmp 8) (.const (.bool true)) (.tmp 10), none⟩])
 (.cond (.tmp 11)
 (.seq
 (.reg [⟨some 2, .mov (.const (.int .i64 2)), none⟩])
 (.ret))
 (.skip)))
 (.seq
 (.seq
 (.reg [⟨some 12, .mov (.tmp 0), none⟩,
 ⟨some 13, .call (.func 41) [(.tmp 12), (.func 43)], none⟩])
 (.cond (.tmp 13)
 (.seq
 (.reg [⟨some 2, .mov (.const (.int .i64 3)), none⟩])
 (.ret))
 (.skip)))
 (.seq
 (.seq
 (.reg [⟨some 14, .mov (.tmp 0), none⟩,
 ⟨some 15, .slen false (.tmp 14), none⟩,
 ⟨some 16, .mov (.const (.int .i64 0)), none⟩])
 (.block 0
 (.loop ac18_l0)))
 (.seq
 (.reg [⟨some 2, .mov (.const (.int .i64 0)), none⟩])
 (.ret)))))
theorem fn18 : Fun Tryz.prog 18 29 ac18 [.tmp 2] := ⟨mixedW, Tryz.f18, _, Tryz.func18, rfl, by decide +kernel, rfl, by kernel_rfl, by kernel_rfl⟩
/- glossator/glossatorlaw1.workspaceError -/
def ac19_l0 : AC := .seq
 (.reg [⟨some 12, .bin .lss .int (.tmp 11) (.tmp 10), none⟩])
 (.seq
 (.cond (.tmp 12)
 (.skip)
 (.exit 0))
 (.seq
 (.block 1
 (.seq
 (.reg [⟨some 13, .iaddr 2 (.tmp 9) (.tmp 11), none⟩,
 ⟨some 14, .load true 2 (.tmp 13), none⟩,
 ⟨some 4, .alloc 69 2 [(.string ⟨#[]⟩), (.string ⟨#[]⟩)], none⟩,
 ⟨none, .store 2 (.tmp 4) (.tmp 14), none⟩])
 (.seq
 (.reg [⟨some 15, .faddr 1 (.tmp 4), none⟩,
 ⟨some 16, .load false 1 (.tmp 15), none⟩,
 ⟨some 17, .slen true (.tmp 16), none⟩,
 ⟨some 18, .bin .gtr .int (.tmp 17) (.const (.int .i64 2000)), none⟩])
 (.cond (.tmp 18)
 (.seq
 (.reg [⟨some 2, .mov (.const (.int .i64 2)), none⟩])
 (.ret))
 (.skip)))))
 (.reg [⟨some 19, .bin .add .int (.tmp 11) (.const (.int .i64 1)), none⟩,
 ⟨some 11, .mov (.tmp 19), none⟩])))
def ac19_l1 : AC := .seq
 (.reg [⟨some 26, .bin .lss .int (.tmp 25) (.tmp 24), none⟩])
 (.seq
 (.cond (.tmp 26)
 (.skip)
 (.exit 2))
 (.seq
 (.block 3
 (.seq
 (.reg [⟨some 27, .iaddr 2 (.tmp 23) (.tmp 25), none⟩,
 ⟨some 28, .load true 2 (.tmp 27), none⟩,
 ⟨some 6, .alloc 69 2 [(.string ⟨#[]⟩), (.string ⟨#[]⟩)], none⟩,
 ⟨none, .store 2 (.tmp 6) (.tmp 28), none⟩])
 (.seq
 (.reg [⟨some 29, .faddr 0 (.tmp 6), none⟩,
 ⟨some 30, .load false 1 (.tmp 29), none⟩,
 ⟨some 31, .call (.func 44) [(.tmp 30)], none⟩,
 ⟨some 32, .un .not (.tmp 31), none⟩])
 (.cond (.tmp 32)
 (.seq
 (.reg [⟨some 2, .mov (.const (.int .i64 3)), none⟩])
 (.ret))
 (.skip)))))
 (.reg [⟨some 33, .bin .add .int (.tmp 25) (.const (.int .i64 1)), none⟩,
 ⟨some 25, .mov (.tmp 33), none⟩])))
def ac19_l2 : AC := .seq
 (.reg [⟨some 37, .bin .lss .int (.tmp 36) (.tmp 35), none⟩])
 (.seq
 (.cond (.tmp 37)
 (.skip)
 (.exit 4))
 (.seq
 (.block 5
 (.seq
 (.reg [⟨some 38, .mov (.tmp 36), none⟩,
 ⟨some 39, .iaddr 2 (.tmp 34) (.tmp 36), none⟩,
 ⟨some 40, .load true 2 (.tmp 39), none⟩,
 ⟨some 8, .alloc 69 2 [(.string ⟨#[]⟩), (.string ⟨#[]⟩)], none⟩,
 ⟨some 7, .mov (.tmp 38), none⟩,
 ⟨none, .store 2 (.tmp 8) (.tmp 40), none⟩])
 (.seq
 (.dreg [⟨some 41, .mov (.tmp 0), none⟩,
 ⟨some 42, .mov (.tmp 7), none⟩,
 ⟨some 43, .slice 2 (.tmp 41) none (some (.tmp 42)) none, none⟩,
 ⟨some 44, .faddr 0 (.tmp 8), none⟩,
 ⟨some 45, .load false 1 (.tmp 44), none⟩,
 ⟨some 46, .call (.func 21) [(.tmp 43), (.tmp 45)], none⟩,
 ⟨some 47, .bin .geq .int (.tmp 46) (.const (.int .i64 0)), none⟩]
 [[], [], [0, 1], [], [3], [2, 4], [5]]
 [[0], [7], [41, 42], [8], [44], [43, 45], [46]])
 (.cond (.tmp 47)
 (.seq
 (.reg [⟨some 2, .mov (.const (.int .i64 6)), none⟩])
 (.ret))
 (.skip)))))
 (.reg [⟨some 48, .bin .add .int (.tmp 36) (.const (.int .i64 1)), none⟩,
 ⟨some 36, .mov (.tmp 48), none⟩])))
def ac19 : AC := .seq
 (.reg [⟨some 2, .mov (.const (.int .i64 0)), none⟩])
 (.seq
 (.seq
 (.reg [⟨some 9, .mov (.tmp 0), none⟩,
 ⟨some 10, .slen false (.tmp 9), none⟩,
 ⟨some 11, .mov (.const (.int .i64 0)), none⟩])
 (.block 0
 (.loop ac19_l0)))
 (.seq
 (.seq
 (.reg [⟨some 20, .mov (.tmp 0), none⟩,
 ⟨some 21, .slen false (.tmp 20), none⟩,
 ⟨some 22, .bin .gtr .int (.tmp 21) (.const (.int .i64 8)), none⟩])
 (.cond (.tmp 22)
 (.seq
 (.reg [⟨some 2, .mov (.const (.int .i64 2)), none⟩])
 (.ret))
 (.skip)))
 (.seq
 (.seq
 (.reg [⟨some 23, .mov (.tmp 0), none⟩,
 ⟨some 24, .slen false (.tmp 23), none⟩,
 ⟨some 25, .mov (.const (.int .i64 0)), none⟩])
 (.block 2
 (.loop ac19_l1)))
 (.seq
 (.seq
 (.reg [⟨some 34, .mov (.tmp 0), none⟩,
 ⟨some 35, .slen false (.tmp 34), none⟩,
 ⟨some 36, .mov (.const (.int .i64 0)), none⟩])
 (.block 4
 (.loop ac19_l2)))
 (.seq
 (.reg [⟨some 2, .mov (.const (.int .i64 0)), none⟩])
 (.ret))))))
theorem fn19 : Fun Tryz.prog 19 49 ac19 [.tmp 2] := ⟨mixedW, Tryz.f19, _, Tryz.func19, rfl, by decide +kernel, rfl, by kernel_rfl, by kernel_rfl⟩
/- glossator/workspace.IndexOf -/
def ac20 : AC := .seq
 (.reg [⟨some 3, .box 9 1 (.tmp 1), none⟩,
 ⟨some 4, .mov (.const (.int .i64 0)), none⟩])
 (.seq
 (.reg [⟨some 5, .mov (.tmp 0), none⟩,
 ⟨some 6, .mkfn 46 [(.tmp 3)], none⟩,
 ⟨some 7, .call (.func 45) [(.tmp 5), (.tmp 6)], none⟩,
 ⟨some 4, .mov (.tmp 7), none⟩])
 (.ret))
theorem fn20 : Fun Tryz.prog 20 8 ac20 [.tmp 4] := ⟨mixedW, Tryz.f20, _, Tryz.func20, rfl, by decide +kernel, rfl, by kernel_rfl, by kernel_rfl⟩
/- glossator/glossatorref1.ModuleIndex -/
def ac21_l0 : AC := .seq
 (.reg [⟨some 10, .bin .lss .int (.tmp 9) (.tmp 8), none⟩])
 (.seq
 (.cond (.tmp 10)
 (.skip)
 (.exit 0))
 (.seq
 (.block 1
 (.seq
 (.reg [⟨some 11, .mov (.tmp 9), none⟩,
 ⟨some 12, .iaddr 2 (.tmp 7) (.tmp 9), none⟩,
 ⟨some 13, .load true 2 (.tmp 12), none⟩,
 ⟨some 6, .alloc 69 2 [(.string ⟨#[]⟩), (.string ⟨#[]⟩)], none⟩,
 ⟨some 5, .mov (.tmp 11), none⟩,
 ⟨none, .store 2 (.tmp 6) (.tmp 13), none⟩])
 (.seq
 (.reg [⟨some 14, .faddr 0 (.tmp 6), none⟩,
 ⟨some 15, .load false 1 (.tmp 14), none⟩,
 ⟨some 16, .mov (.tmp 1), none⟩,
 ⟨some 17, .bin .eql .str (.tmp 15) (.tmp 16), none⟩])
 (.cond (.tmp 17)
 (.seq
 (.reg [⟨some 18, .mov (.tmp 5), none⟩,
 ⟨some 4, .mov (.tmp 18), none⟩])
 (.ret))
 (.skip)))))
 (.reg [⟨some 19, .bin .add .int (.tmp 9) (.const (.int .i64 1)), none⟩,
 ⟨some 9, .mov (.tmp 19), none⟩])))
def ac21 : AC := .seq
 (.reg [⟨some 4, .mov (.const (.int .i64 0)), none⟩])
 (.seq
 (.seq
 (.reg [⟨some 7, .mov (.tmp 0), none⟩,
 ⟨some 8, .slen false (.tmp 7), none⟩,
 ⟨some 9, .mov (.const (.int .i64 0)), none⟩])
 (.block 0
 (.loop ac21_l0)))
 (.seq
 (.reg [⟨some 4, .mov (.const (.int .i64 (-1))), none⟩])
 (.ret)))
theorem fn21 : Fun Tryz.prog 21 20 ac21 [.tmp 4] := ⟨mixedW, Tryz.f21, _, Tryz.func21, rfl, by decide +kernel, rfl, by kernel_rfl, by kernel_rfl⟩
/- glossator/lexer.First -/
def ac32 : AC := .seq
 (.reg [⟨some 2, .mov (.const (.int .i64 0)), none⟩,
 ⟨some 3, .mov (.const (.int .i64 0)), none⟩])
 (.seq
 (.seq
 (.reg [⟨some 6, .mov (.tmp 0), none⟩,
 ⟨some 7, .sindex (.tmp 6) (.const (.int .i64 0)), none⟩,
 ⟨some 4, .mov (.tmp 7), none⟩])
 (.block 0
 (.seq
 (.reg [⟨some 9, .mov (.tmp 4), none⟩,
 ⟨some 10, .call (.func 67) [(.tmp 9)], none⟩,
 ⟨some 8, .mov (.tmp 10), none⟩])
 (.cond (.tmp 8)
 (.seq
 (.reg [⟨some 11, .mov (.tmp 0), none⟩,
 ⟨some 12, .call (.func 68) [(.tmp 11), (.const (.int .i64 0)), (.func 67)], none⟩,
 ⟨some 2, .mov (.tmp 12), none⟩,
 ⟨some 3, .mov (.const (.int .i64 101)), none⟩])
 (.ret))
 (.seq
 (.reg [⟨some 14, .mov (.tmp 0), none⟩,
 ⟨some 15, .call (.func 69) [(.tmp 14), (.const (.string ⟨#[47, 47]⟩))], none⟩,
 ⟨some 13, .mov (.tmp 15), none⟩])
 (.cond (.tmp 13)
 (.seq
 (.reg [⟨some 16, .mov (.tmp 0), none⟩,
 ⟨some 17, .call (.func 68) [(.tmp 16), (.const (.int .i64 0)), (.func 70)], none⟩,
 ⟨some 2, .mov (.tmp 17), none⟩,
 ⟨some 3, .mov (.const (.int .i64 102)), none⟩])
 (.ret))
 (.seq
 (.reg [⟨some 19, .mov (.tmp 4), none⟩,
 ⟨some 20, .call (.func 71) [(.tmp 19)], none⟩,
 ⟨some 18, .mov (.tmp 20), none⟩])
 (.cond (.tmp 18)
 (.seq
 (.reg [⟨some 21, .mov (.tmp 0), none⟩,
 ⟨some 22, .call (.func 68) [(.tmp 21), (.const (.int .i64 0)), (.func 72)], none⟩,
 ⟨some 5, .mov (.tmp 22), none⟩])
 (.seq
 (.seq
 (.dreg [⟨some 23, .call (.func 75) [], none⟩,
 ⟨some 24, .mov (.tmp 0), none⟩,
 ⟨some 25, .mov (.tmp 5), none⟩,
 ⟨some 26, .sslice (.tmp 24) none (some (.tmp 25)), none⟩,
 ⟨some 27, .call (.func 74) [(.tmp 23), (.tmp 26)], none⟩]
 [[], [], [], [1, 2], [0, 3, 0]]
 [[], [0], [5], [24, 25], [23, 26]])
 (.cond (.tmp 27)
 (.seq
 (.reg [⟨some 28, .mov (.tmp 5), none⟩,
 ⟨some 2, .mov (.tmp 28), none⟩,
 ⟨some 3, .mov (.const (.int .i64 104)), none⟩])
 (.ret))
 (.skip)))
 (.seq
 (.reg [⟨some 29, .mov (.tmp 5), none⟩,
 ⟨some 2, .mov (.tmp 29), none⟩,
 ⟨some 3, .mov (.const (.int .i64 103)), none⟩])
 (.ret))))
 (.seq
 (.reg [⟨some 31, .mov (.tmp 4), none⟩,
 ⟨some 32, .call (.func 73) [(.tmp 31)], none⟩,
 ⟨some 30, .mov (.tmp 32), none⟩])
 (.cond (.tmp 30)
 (.seq
 (.reg [⟨some 33, .mov (.tmp 0), none⟩,
 ⟨some 34, .call (.func 68) [(.tmp 33), (.const (.int .i64 0)), (.func 73)], none⟩,
 ⟨some 2, .mov (.tmp 34), none⟩,
 ⟨some 3, .mov (.const (.int .i64 105)), none⟩])
 (.ret))
 (.seq
 (.reg [⟨some 36, .mov (.tmp 4), none⟩,
 ⟨some 37, .bin .eql .int (.tmp 36) (.const (.int .u8 34)), none⟩,
 ⟨some 35, .mov (.tmp 37), none⟩])
 (.cond (.tmp 35)
 (.seq
 (.reg [⟨some 38, .mov (.tmp 0), none⟩,
 ⟨some 39, .call (.func 76) [(.tmp 38)], none⟩,
 ⟨some 40, .ext (.tmp 39) 0, none⟩,
 ⟨some 41, .ext (.tmp 39) 1, none⟩,
 ⟨some 2, .mov (.tmp 40), none⟩,
 ⟨some 3, .mov (.tmp 41), none⟩])
 (.ret))
 (.seq
 (.dreg [⟨some 43, .mov (.tmp 0), none⟩,
 ⟨some 44, .slen true (.tmp 43), none⟩,
 ⟨some 45, .bin .gtr .int (.tmp 44) (.const (.int .i64 1)), none⟩,
 ⟨some 46, .mov (.tmp 45), none⟩,
 ⟨some 47, .call (.func 77) [], some (46, true)⟩,
 ⟨some 48, .mov (.tmp 0), some (46, true)⟩,
 ⟨some 49, .sslice (.tmp 48) none (some (.const (.int .i64 2))), some (46, true)⟩,
 ⟨some 50, .call (.func 74) [(.tmp 47), (.tmp 49)], some (46, true)⟩,
 ⟨some 51, .pick (.tmp 46) (.tmp 50) (.const (.bool false)), none⟩,
 ⟨some 42, .mov (.tmp 51), none⟩]
 [[], [0], [1], [2], [3, 3], [3], [5, 3], [4, 6, 4, 3], [3, 7], [8, 7]]
 [[0], [43], [44], [45], [46], [0, 46], [48, 46], [47, 49, 46], [46, 50], [51]])
 (.cond (.tmp 42)
 (.seq
 (.reg [⟨some 2, .mov (.const (.int .i64 2)), none⟩,
 ⟨some 3, .mov (.const (.int .i64 107)), none⟩])
 (.ret))
 (.seq
 (.reg [⟨some 53, .mov (.tmp 4), none⟩,
 ⟨some 54, .call (.func 78) [(.const (.string ⟨#[40, 41, 123, 125, 91, 93, 60, 62, 44, 59, 58, 46, 61, 43, 45, 42, 47, 33, 38, 124]⟩)), (.tmp 53)], none⟩,
 ⟨some 55, .bin .geq .int (.tmp 54) (.const (.int .i64 0)), none⟩,
 ⟨some 52, .mov (.tmp 55), none⟩])
 (.cond (.tmp 52)
 (.seq
 (.reg [⟨some 2, .mov (.const (.int .i64 1)), none⟩,
 ⟨some 3, .mov (.const (.int .i64 107)), none⟩])
 (.ret))
 (.skip)))))))))))))))))
 (.seq
 (.reg [⟨some 2, .mov (.const (.int .i64 1)), none⟩,
 ⟨some 3, .mov (.const (.int .i64 108)), none⟩])
 (.ret)))
theorem fn32 : Fun Tryz.prog 32 56 ac32 [.tmp 2, .tmp 3] := ⟨mixedW, Tryz.f32, _, Tryz.func32, rfl, by decide +kernel, rfl, by kernel_rfl, by kernel_rfl⟩
/- slices.ContainsFunc[[]glossator/api.Module,glossator/api.Module] -/
def ac41 : AC := .seq
 (.reg [⟨some 4, .mov (.const (.bool false)), none⟩])
 (.seq
 (.reg [⟨some 5, .mov (.tmp 0), none⟩,
 ⟨some 6, .mov (.tmp 1), none⟩,
 ⟨some 7, .call (.func 45) [(.tmp 5), (.tmp 6)], none⟩,
 ⟨some 8, .bin .geq .int (.tmp 7) (.const (.int .i64 0)), none⟩,
 ⟨some 4, .mov (.tmp 8), none⟩])
 (.ret))
theorem fn41 : Fun Tryz.prog 41 9 ac41 [.tmp 4] := ⟨mixedW, Tryz.f41, _, Tryz.func41, rfl, by decide +kernel, rfl, by kernel_rfl, by kernel_rfl⟩
/- glossator/workspace.Validate$1 -/
def ac42 : AC := .seq
 (.reg [⟨some 1, .box 69 2 (.tmp 0), none⟩,
 ⟨some 2, .mov (.const (.bool false)), none⟩])
 (.seq
 (.reg [⟨some 3, .faddr 1 (.tmp 1), none⟩,
 ⟨some 4, .load false 1 (.tmp 3), none⟩,
 ⟨some 5, .slen true (.tmp 4), none⟩,
 ⟨some 6, .bin .gtr .int (.tmp 5) (.const (.int .i64 2000)), none⟩,
 ⟨some 2, .mov (.tmp 6), none⟩])
 (.ret))
theorem fn42 : Fun Tryz.prog 42 7 ac42 [.tmp 2] := ⟨mixedW, Tryz.f42, _, Tryz.func42, rfl, by decide +kernel, rfl, by kernel_rfl, by kernel_rfl⟩
/- glossator/workspace.Validate$2 -/
def ac43 : AC := .seq
 (.reg [⟨some 1, .box 69 2 (.tmp 0), none⟩,
 ⟨some 2, .mov (.const (.bool false)), none⟩])
 (.seq
 (.reg [⟨some 3, .faddr 0 (.tmp 1), none⟩,
 ⟨some 4, .load false 1 (.tmp 3), none⟩,
 ⟨some 5, .call (.func 44) [(.tmp 4)], none⟩,
 ⟨some 6, .un .not (.tmp 5), none⟩,
 ⟨some 2, .mov (.tmp 6), none⟩])
 (.ret))
theorem fn43 : Fun Tryz.prog 43 7 ac43 [.tmp 2] := ⟨mixedW, Tryz.f43, _, Tryz.func43, rfl, by decide +kernel, rfl, by kernel_rfl, by kernel_rfl⟩
/- glossator/lexer.IsIdentifier -/
def ac44 : AC := .seq
 (.reg [⟨some 2, .mov (.const (.bool false)), none⟩])
 (.seq
 (.seq
 (.reg [⟨some 5, .mov (.tmp 0), none⟩,
 ⟨some 6, .slen true (.tmp 5), none⟩,
 ⟨some 7, .bin .eql .int (.tmp 6) (.const (.int .i64 0)), none⟩,
 ⟨some 8, .mov (.tmp 7), none⟩,
 ⟨some 9, .mov (.tmp 0), some (8, false)⟩,
 ⟨some 10, .slen true (.tmp 9), some (8, false)⟩,
 ⟨some 11, .bin .gtr .int (.tmp 10) (.const (.int .i64 30)), some (8, false)⟩,
 ⟨some 12, .pick (.tmp 8) (.const (.bool true)) (.tmp 11), none⟩])
 (.cond (.tmp 12)
 (.seq
 (.reg [⟨some 2, .mov (.const (.bool false)), none⟩])
 (.ret))
 (.skip)))
 (.seq
 (.reg [⟨some 14, .mov (.tmp 0), none⟩,
 ⟨some 15, .call (.func 32) [(.tmp 14)], none⟩,
 ⟨some 13, .mov (.tmp 15), none⟩,
 ⟨some 16, .ext (.tmp 13) 0, none⟩,
 ⟨some 17, .ext (.tmp 13) 1, none⟩,
 ⟨some 3, .mov (.tmp 16), none⟩,
 ⟨some 4, .mov (.tmp 17), none⟩])
 (.seq
 (.reg [⟨some 18, .mov (.tmp 3), none⟩,
 ⟨some 19, .mov (.tmp 0), none⟩,
 ⟨some 20, .slen true (.tmp 19), none⟩,
 ⟨some 21, .bin .eql .int (.tmp 18) (.tmp 20), none⟩,
 ⟨some 22, .mov (.tmp 21), none⟩,
 ⟨some 23, .mov (.tmp 4), some (22, true)⟩,
 ⟨some 24, .bin .eql .int (.tmp 23) (.const (.int .i64 103)), some (22, true)⟩,
 ⟨some 25, .pick (.tmp 22) (.tmp 24) (.const (.bool false)), none⟩,
 ⟨some 2, .mov (.tmp 25), none⟩])
 (.ret))))
theorem fn44 : Fun Tryz.prog 44 26 ac44 [.tmp 2] := ⟨mixedW, Tryz.f44, _, Tryz.func44, rfl, by decide +kernel, rfl, by kernel_rfl, by kernel_rfl⟩
/- slices.IndexFunc[[]glossator/api.Module,glossator/api.Module] -/
def ac45_l0 : AC := .seq
 (.reg [⟨some 9, .bin .lss .int (.tmp 8) (.tmp 7), none⟩])
 (.seq
 (.cond (.tmp 9)
 (.skip)
 (.exit 0))
 (.seq
 (.block 1
 (.seq
 (.reg [⟨some 10, .mov (.tmp 8), none⟩,
 ⟨some 5, .mov (.tmp 10), none⟩])
 (.seq
 (.reg [⟨some 11, .mov (.tmp 1), none⟩,
 ⟨some 12, .mov (.tmp 0), none⟩,
 ⟨some 13, .mov (.tmp 5), none⟩,
 ⟨some 14, .iaddr 2 (.tmp 12) (.tmp 13), none⟩,
 ⟨some 15, .load true 2 (.tmp 14), none⟩,
 ⟨some 16, .call (.tmp 11) [(.tmp 15)], none⟩])
 (.cond (.tmp 16)
 (.seq
 (.reg [⟨some 17, .mov (.tmp 5), none⟩,
 ⟨some 4, .mov (.tmp 17), none⟩])
 (.ret))
 (.skip)))))
 (.reg [⟨some 18, .bin .add .int (.tmp 8) (.const (.int .i64 1)), none⟩,
 ⟨some 8, .mov (.tmp 18), none⟩])))
def ac45 : AC := .seq
 (.reg [⟨some 4, .mov (.const (.int .i64 0)), none⟩])
 (.seq
 (.seq
 (.reg [⟨some 6, .mov (.tmp 0), none⟩,
 ⟨some 7, .slen false (.tmp 6), none⟩,
 ⟨some 8, .mov (.const (.int .i64 0)), none⟩])
 (.block 0
 (.loop ac45_l0)))
 (.seq
 (.reg [⟨some 4, .mov (.const (.int .i64 (-1))), none⟩])
 (.ret)))
theorem fn45 : Fun Tryz.prog 45 19 ac45 [.tmp 4] := ⟨mixedW, Tryz.f45, _, Tryz.func45, rfl, by decide +kernel, rfl, by kernel_rfl, by kernel_rfl⟩
/- glossator/workspace.IndexOf$1 -/
def ac46 : AC := .seq
 (.reg [⟨some 2, .box 69 2 (.tmp 0), none⟩,
 ⟨some 3, .mov (.const (.bool false)), none⟩])
 (.seq
 (.reg [⟨some 4, .faddr 0 (.tmp 2), none⟩,
 ⟨some 5, .load false 1 (.tmp 4), none⟩,
 ⟨some 6, .load false 1 (.tmp 1), none⟩,
 ⟨some 7, .bin .eql .str (.tmp 5) (.tmp 6), none⟩,
 ⟨some 3, .mov (.tmp 7), none⟩])
 (.ret))
theorem fn46 : Fun Tryz.prog 46 8 ac46 [.tmp 3] := ⟨mixedW, Tryz.f46, _, Tryz.func46, rfl, by decide +kernel, rfl, by kernel_rfl, by kernel_rfl⟩
/- glossator/lexer.isSpace -/
def ac67 : AC := .seq
 (.reg [⟨some 2, .mov (.const (.bool false)), none⟩])
 (.seq
 (.reg [⟨some 3, .mov (.tmp 0), none⟩,
 ⟨some 4, .call (.func 78) [(.const (.string ⟨#[32, 9, 10, 13]⟩)), (.tmp 3)], none⟩,
 ⟨some 5, .bin .geq .int (.tmp 4) (.const (.int .i64 0)), none⟩,
 ⟨some 2, .mov (.tmp 5), none⟩])
 (.ret))
theorem fn67 : Fun Tryz.prog 67 6 ac67 [.tmp 2] := ⟨mixedW, Tryz.f67, _, Tryz.func67, rfl, by decide +kernel, rfl, by kernel_rfl, by kernel_rfl⟩
/- glossator/lexer.scan -/
def ac68_l0 : AC := .seq
 (.seq
 (.reg [⟨some 7, .mov (.tmp 1), none⟩,
 ⟨some 8, .mov (.tmp 0), none⟩,
 ⟨some 9, .slen true (.tmp 8), none⟩,
 ⟨some 10, .bin .lss .int (.tmp 7) (.tmp 9), none⟩,
 ⟨some 11, .mov (.tmp 10), none⟩,
 ⟨some 12, .mov (.tmp 2), some (11, true)⟩,
 ⟨some 13, .mov (.tmp 0), some (11, true)⟩,
 ⟨some 14, .mov (.tmp 1), some (11, true)⟩,
 ⟨some 15, .sindex (.tmp 13) (.tmp 14), some (11, true)⟩,
 ⟨some 16, .call (.tmp 12) [(.tmp 15)], some (11, true)⟩,
 ⟨some 17, .pick (.tmp 11) (.tmp 16) (.const (.bool false)), none⟩])
 (.cond (.tmp 17)
 (.skip)
 (.exit 0)))
 (.block 1
 (.reg [⟨some 18, .mov (.tmp 1), none⟩,
 ⟨some 19, .bin .add .int (.tmp 18) (.const (.int .i64 1)), none⟩,
 ⟨some 1, .mov (.tmp 19), none⟩]))
def ac68 : AC := .seq
 (.reg [⟨some 6, .mov (.const (.int .i64 0)), none⟩])
 (.seq
 (.block 0
 (.loop ac68_l0))
 (.seq
 (.reg [⟨some 20, .mov (.tmp 1), none⟩,
 ⟨some 6, .mov (.tmp 20), none⟩])
 (.ret)))
theorem fn68 : Fun Tryz.prog 68 21 ac68 [.tmp 6] := ⟨mixedW, Tryz.f68, _, Tryz.func68, rfl, by decide +kernel, rfl, by kernel_rfl, by kernel_rfl⟩
/- strings.HasPrefix -/
def ac69 : AC := .seq
 (.reg [⟨some 4, .mov (.const (.bool false)), none⟩])
 (.seq
 (.reg [⟨some 5, .mov (.tmp 0), none⟩,
 ⟨some 6, .mov (.tmp 1), none⟩,
 ⟨some 7, .call (.func 108) [(.tmp 5), (.tmp 6)], none⟩,
 ⟨some 4, .mov (.tmp 7), none⟩])
 (.ret))
theorem fn69 : Fun Tryz.prog 69 8 ac69 [.tmp 4] := ⟨mixedW, Tryz.f69, _, Tryz.func69, rfl, by decide +kernel, rfl, by kernel_rfl, by kernel_rfl⟩
/- glossator/lexer.First$1 -/
def ac70 : AC := .seq
 (.reg [⟨some 2, .mov (.const (.bool false)), none⟩])
 (.seq
 (.reg [⟨some 3, .mov (.tmp 0), none⟩,
 ⟨some 4, .bin .neq .int (.tmp 3) (.const (.int .u8 10)), none⟩,
 ⟨some 2, .mov (.tmp 4), none⟩])
 (.ret))
theorem fn70 : Fun Tryz.prog 70 5 ac70 [.tmp 2] := ⟨mixedW, Tryz.f70, _, Tryz.func70, rfl, by decide +kernel, rfl, by kernel_rfl, by kernel_rfl⟩
/- glossator/lexer.isLetter -/
def ac71 : AC := .seq
 (.reg [⟨some 2, .mov (.const (.bool false)), none⟩])
 (.seq
 (.reg [⟨some 3, .mov (.tmp 0), none⟩,
 ⟨some 4, .bin .geq .int (.tmp 3) (.const (.int .u8 97)), none⟩,
 ⟨some 5, .mov (.tmp 4), none⟩,
 ⟨some 6, .mov (.tmp 0), some (5, true)⟩,
 ⟨some 7, .bin .leq .int (.tmp 6) (.const (.int .u8 122)), some (5, true)⟩,
 ⟨some 8, .pick (.tmp 5) (.tmp 7) (.const (.bool false)), none⟩,
 ⟨some 9, .mov (.tmp 8), none⟩,
 ⟨some 10, .mov (.tmp 0), some (9, false)⟩,
 ⟨some 11, .bin .geq .int (.tmp 10) (.const (.int .u8 65)), some (9, false)⟩,
 ⟨some 12, .mov (.tmp 11), some (9, false)⟩,
 ⟨some 13, .mov (.tmp 0), some (12, true)⟩,
 ⟨some 14, .bin .leq .int (.tmp 13) (.const (.int .u8 90)), some (12, true)⟩,
 ⟨some 15, .pick (.tmp 12) (.tmp 14) (.const (.bool false)), some (9, false)⟩,
 ⟨some 16, .pick (.tmp 9) (.const (.bool true)) (.tmp 15), none⟩,
 ⟨some 17, .mov (.tmp 16), none⟩,
 ⟨some 18, .mov (.tmp 0), some (17, false)⟩,
 ⟨some 19, .bin .eql .int (.tmp 18) (.const (.int .u8 95)), some (17, false)⟩,
 ⟨some 20, .pick (.tmp 17) (.const (.bool true)) (.tmp 19), none⟩,
 ⟨some 2, .mov (.tmp 20), none⟩])
 (.ret))
theorem fn71 : Fun Tryz.prog 71 21 ac71 [.tmp 2] := ⟨mixedW, Tryz.f71, _, Tryz.func71, rfl, by decide +kernel, rfl, by kernel_rfl, by kernel_rfl⟩
/- glossator/lexer.First$2 -/
def ac72 : AC := .seq
 (.reg [⟨some 2, .mov (.const (.bool false)), none⟩])
 (.seq
 (.reg [⟨some 3, .mov (.tmp 0), none⟩,
 ⟨some 4, .call (.func 71) [(.tmp 3)], none⟩,
 ⟨some 5, .mov (.tmp 4), none⟩,
 ⟨some 6, .mov (.tmp 0), some (5, false)⟩,
 ⟨some 7, .call (.func 73) [(.tmp 6)], some (5, false)⟩,
 ⟨some 8, .pick (.tmp 5) (.const (.bool true)) (.tmp 7), none⟩,
 ⟨some 2, .mov (.tmp 8), none⟩])
 (.ret))
theorem fn72 : Fun Tryz.prog 72 9 ac72 [.tmp 2] := ⟨mixedW, Tryz.f72, _, Tryz.func72, rfl, by decide +kernel, rfl, by kernel_rfl, by kernel_rfl⟩
/- glossator/lexer.isDigit -/
def ac73 : AC := .seq
 (.reg [⟨some 2, .mov (.const (.bool false)), none⟩])
 (.seq
 (.reg [⟨some 3, .mov (.tmp 0), none⟩,
 ⟨some 4, .bin .geq .int (.tmp 3) (.const (.int .u8 48)), none⟩,
 ⟨some 5, .mov (.tmp 4), none⟩,
 ⟨some 6, .mov (.tmp 0), some (5, true)⟩,
 ⟨some 7, .bin .leq .int (.tmp 6) (.const (.int .u8 57)), some (5, true)⟩,
 ⟨some 8, .pick (.tmp 5) (.tmp 7) (.const (.bool false)), none⟩,
 ⟨some 2, .mov (.tmp 8), none⟩])
 (.ret))
theorem fn73 : Fun Tryz.prog 73 9 ac73 [.tmp 2] := ⟨mixedW, Tryz.f73, _, Tryz.func73, rfl, by decide +kernel, rfl, by kernel_rfl, by kernel_rfl⟩
/- slices.Contains[[]string,string] -/
def ac74 : AC := .seq
 (.reg [⟨some 4, .mov (.const (.bool false)), none⟩])
 (.seq
 (.reg [⟨some 5, .mov (.tmp 0), none⟩,
 ⟨some 6, .mov (.tmp 1), none⟩,
 ⟨some 7, .call (.func 109) [(.tmp 5), (.tmp 6)], none⟩,
 ⟨some 8, .bin .geq .int (.tmp 7) (.const (.int .i64 0)), none⟩,
 ⟨some 4, .mov (.tmp 8), none⟩])
 (.ret))
theorem fn74 : Fun Tryz.prog 74 9 ac74 [.tmp 4] := ⟨mixedW, Tryz.f74, _, Tryz.func74, rfl, by decide +kernel, rfl, by kernel_rfl, by kernel_rfl⟩
/- glossator/lexer.Keywords -/
def ac75 : AC := .seq
 (.reg [⟨some 0, .mov (.const (.slice none 0 0)), none⟩])
 (.seq
 (.reg [⟨some 1, .call (.func 110) [(.const (.string ⟨#[117, 115, 101, 32, 112, 117, 98, 32, 97, 115, 32, 102, 110, 32, 115, 116, 114, 117, 99, 116, 32, 101, 110, 117, 109, 32, 116, 114, 97, 105, 116, 32, 105, 109, 112, 108, 32, 102, 111, 114, 32, 99, 111, 110, 115, 116, 32, 109, 97, 99, 114, 111, 32, 108, 101, 116, 32, 109, 117, 116, 32, 119, 104, 105, 108, 101, 32, 114, 101, 116, 117, 114, 110, 32, 109, 97, 116, 99, 104, 32, 105, 102, 32, 101, 108, 115, 101, 32, 110, 101, 119, 32, 116, 114, 117, 101, 32, 102, 97, 108, 115, 101, 32, 116, 121, 112, 101]⟩))], none⟩,
 ⟨some 0, .mov (.tmp 1), none⟩])
 (.ret))
theorem fn75 : Fun Tryz.prog 75 2 ac75 [.tmp 0] := ⟨mixedW, Tryz.f75, _, Tryz.func75, rfl, by decide +kernel, rfl, by kernel_rfl, by kernel_rfl⟩
/- glossator/lexer.scanString -/
def ac76_l0 : AC := .seq
 (.seq
 (.reg [⟨some 5, .mov (.tmp 4), none⟩,
 ⟨some 6, .mov (.tmp 0), none⟩,
 ⟨some 7, .slen true (.tmp 6), none⟩,
 ⟨some 8, .bin .lss .int (.tmp 5) (.tmp 7), none⟩,
 ⟨some 9, .mov (.tmp 8), none⟩,
 ⟨some 10, .mov (.tmp 0), some (9, true)⟩,
 ⟨some 11, .mov (.tmp 4), some (9, true)⟩,
 ⟨some 12, .sindex (.tmp 10) (.tmp 11), some (9, true)⟩,
 ⟨some 13, .bin .neq .int (.tmp 12) (.const (.int .u8 10)), some (9, true)⟩,
 ⟨some 14, .pick (.tmp 9) (.tmp 13) (.const (.bool false)), none⟩])
 (.cond (.tmp 14)
 (.skip)
 (.exit 0)))
 (.seq
 (.block 1
 (.block 2
 (.seq
 (.reg [⟨some 18, .mov (.tmp 0), none⟩,
 ⟨some 19, .mov (.tmp 4), none⟩,
 ⟨some 20, .sindex (.tmp 18) (.tmp 19), none⟩,
 ⟨some 21, .bin .eql .int (.tmp 20) (.const (.int .u8 34)), none⟩,
 ⟨some 17, .mov (.tmp 21), none⟩])
 (.cond (.tmp 17)
 (.seq
 (.reg [⟨some 22, .mov (.tmp 4), none⟩,
 ⟨some 23, .bin .add .int (.tmp 22) (.const (.int .i64 1)), none⟩,
 ⟨some 2, .mov (.tmp 23), none⟩,
 ⟨some 3, .mov (.const (.int .i64 106)), none⟩])
 (.ret))
 (.seq
 (.reg [⟨some 25, .mov (.tmp 0), none⟩,
 ⟨some 26, .mov (.tmp 4), none⟩,
 ⟨some 27, .sindex (.tmp 25) (.tmp 26), none⟩,
 ⟨some 28, .bin .eql .int (.tmp 27) (.const (.int .u8 92)), none⟩,
 ⟨some 29, .mov (.tmp 28), none⟩,
 ⟨some 30, .mov (.tmp 4), some (29, true)⟩,
 ⟨some 31, .bin .add .int (.tmp 30) (.const (.int .i64 1)), some (29, true)⟩,
 ⟨some 32, .mov (.tmp 0), some (29, true)⟩,
 ⟨some 33, .slen true (.tmp 32), some (29, true)⟩,
 ⟨some 34, .bin .lss .int (.tmp 31) (.tmp 33), some (29, true)⟩,
 ⟨some 35, .pick (.tmp 29) (.tmp 34) (.const (.bool false)), none⟩,
 ⟨some 36, .mov (.tmp 35), none⟩,
 ⟨some 37, .mov (.tmp 0), some (36, true)⟩,
 ⟨some 38, .mov (.tmp 4), some (36, true)⟩,
 ⟨some 39, .bin .add .int (.tmp 38) (.const (.int .i64 1)), some (36, true)⟩,
 ⟨some 40, .sindex (.tmp 37) (.tmp 39), some (36, true)⟩,
 ⟨some 41, .bin .neq .int (.tmp 40) (.const (.int .u8 10)), some (36, true)⟩,
 ⟨some 42, .pick (.tmp 36) (.tmp 41) (.const (.bool false)), none⟩,
 ⟨some 24, .mov (.tmp 42), none⟩])
 (.cond (.tmp 24)
 (.reg [⟨some 43, .mov (.tmp 4), none⟩,
 ⟨some 44, .bin .add .int (.tmp 43) (.const (.int .i64 1)), none⟩,
 ⟨some 4, .mov (.tmp 44), none⟩])
 (.skip)))))))
 (.reg [⟨some 15, .mov (.tmp 4), none⟩,
 ⟨some 16, .bin .add .int (.tmp 15) (.const (.int .i64 1)), none⟩,
 ⟨some 4, .mov (.tmp 16), none⟩]))
def ac76 : AC := .seq
 (.reg [⟨some 2, .mov (.const (.int .i64 0)), none⟩,
 ⟨some 3, .mov (.const (.int .i64 0)), none⟩])
 (.seq
 (.seq
 (.reg [⟨some 4, .mov (.const (.int .i64 1)), none⟩])
 (.block 0
 (.loop ac76_l0)))
 (.seq
 (.reg [⟨some 45, .mov (.tmp 0), none⟩,
 ⟨some 46, .call (.func 68) [(.tmp 45), (.const (.int .i64 1)), (.func 111)], none⟩,
 ⟨some 2, .mov (.tmp 46), none⟩,
 ⟨some 3, .mov (.const (.int .i64 108)), none⟩])
 (.ret)))
theorem fn76 : Fun Tryz.prog 76 47 ac76 [.tmp 2, .tmp 3] := ⟨mixedW, Tryz.f76, _, Tryz.func76, rfl, by decide +kernel, rfl, by kernel_rfl, by kernel_rfl⟩
/- glossator/lexer.twoBytePunct -/
def ac77 : AC := .seq
 (.reg [⟨some 0, .mov (.const (.slice none 0 0)), none⟩])
 (.seq
 (.reg [⟨some 1, .call (.func 110) [(.const (.string ⟨#[58, 58, 32, 61, 62, 32, 45, 62, 32, 61, 61, 32, 38, 38, 32, 124, 124]⟩))], none⟩,
 ⟨some 0, .mov (.tmp 1), none⟩])
 (.ret))
theorem fn77 : Fun Tryz.prog 77 2 ac77 [.tmp 0] := ⟨mixedW, Tryz.f77, _, Tryz.func77, rfl, by decide +kernel, rfl, by kernel_rfl, by kernel_rfl⟩
/- strings.IndexByte -/
def ac78 : AC := .seq
 (.reg [⟨some 4, .mov (.const (.int .i64 0)), none⟩])
 (.seq
 (.reg [⟨some 5, .mov (.tmp 0), none⟩,
 ⟨some 6, .mov (.tmp 1), none⟩,
 ⟨some 7, .call (.func 112) [(.tmp 5), (.tmp 6)], none⟩,
 ⟨some 4, .mov (.tmp 7), none⟩])
 (.ret))
theorem fn78 : Fun Tryz.prog 78 8 ac78 [.tmp 4] := ⟨mixedW, Tryz.f78, _, Tryz.func78, rfl, by decide +kernel, rfl, by kernel_rfl, by kernel_rfl⟩
/- internal/stringslite.HasPrefix -/
def ac108 : AC := .seq
 (.reg [⟨some 4, .mov (.const (.bool false)), none⟩])
 (.seq
 (.reg [⟨some 5, .mov (.tmp 0), none⟩,
 ⟨some 6, .slen true (.tmp 5), none⟩,
 ⟨some 7, .mov (.tmp 1), none⟩,
 ⟨some 8, .slen true (.tmp 7), none⟩,
 ⟨some 9, .bin .geq .int (.tmp 6) (.tmp 8), none⟩,
 ⟨some 10, .mov (.tmp 9), none⟩,
 ⟨some 11, .mov (.tmp 0), some (10, true)⟩,
 ⟨some 12, .mov (.tmp 1), some (10, true)⟩,
 ⟨some 13, .slen true (.tmp 12), some (10, true)⟩,
 ⟨some 14, .sslice (.tmp 11) none (some (.tmp 13)), some (10, true)⟩,
 ⟨some 15, .mov (.tmp 1), some (10, true)⟩,
 ⟨some 16, .bin .eql .str (.tmp 14) (.tmp 15), some (10, true)⟩,
 ⟨some 17, .pick (.tmp 10) (.tmp 16) (.const (.bool false)), none⟩,
 ⟨some 4, .mov (.tmp 17), none⟩])
 (.ret))
theorem fn108 : Fun Tryz.prog 108 18 ac108 [.tmp 4] := ⟨mixedW, Tryz.f108, _, Tryz.func108, rfl, by decide +kernel, rfl, by kernel_rfl, by kernel_rfl⟩
/- slices.Index[[]string,string] -/
def ac109_l0 : AC := .seq
 (.reg [⟨some 9, .bin .lss .int (.tmp 8) (.tmp 7), none⟩])
 (.seq
 (.cond (.tmp 9)
 (.skip)
 (.exit 0))
 (.seq
 (.block 1
 (.seq
 (.reg [⟨some 10, .mov (.tmp 8), none⟩,
 ⟨some 5, .mov (.tmp 10), none⟩])
 (.seq
 (.reg [⟨some 11, .mov (.tmp 1), none⟩,
 ⟨some 12, .mov (.tmp 0), none⟩,
 ⟨some 13, .mov (.tmp 5), none⟩,
 ⟨some 14, .iaddr 1 (.tmp 12) (.tmp 13), none⟩,
 ⟨some 15, .load false 1 (.tmp 14), none⟩,
 ⟨some 16, .bin .eql .str (.tmp 11) (.tmp 15), none⟩])
 (.cond (.tmp 16)
 (.seq
 (.reg [⟨some 17, .mov (.tmp 5), none⟩,
 ⟨some 4, .mov (.tmp 17), none⟩])
 (.ret))
 (.skip)))))
 (.reg [⟨some 18, .bin .add .int (.tmp 8) (.const (.int .i64 1)), none⟩,
 ⟨some 8, .mov (.tmp 18), none⟩])))
def ac109 : AC := .seq
 (.reg [⟨some 4, .mov (.const (.int .i64 0)), none⟩])
 (.seq
 (.seq
 (.reg [⟨some 6, .mov (.tmp 0), none⟩,
 ⟨some 7, .slen false (.tmp 6), none⟩,
 ⟨some 8, .mov (.const (.int .i64 0)), none⟩])
 (.block 0
 (.loop ac109_l0)))
 (.seq
 (.reg [⟨some 4, .mov (.const (.int .i64 (-1))), none⟩])
 (.ret)))
theorem fn109 : Fun Tryz.prog 109 19 ac109 [.tmp 4] := ⟨mixedW, Tryz.f109, _, Tryz.func109, rfl, by decide +kernel, rfl, by kernel_rfl, by kernel_rfl⟩
/- glossator/lexer.scanString$1 -/
def ac111 : AC := .seq
 (.reg [⟨some 2, .mov (.const (.bool false)), none⟩])
 (.seq
 (.reg [⟨some 3, .mov (.tmp 0), none⟩,
 ⟨some 4, .bin .neq .int (.tmp 3) (.const (.int .u8 10)), none⟩,
 ⟨some 2, .mov (.tmp 4), none⟩])
 (.ret))
theorem fn111 : Fun Tryz.prog 111 5 ac111 [.tmp 2] := ⟨mixedW, Tryz.f111, _, Tryz.func111, rfl, by decide +kernel, rfl, by kernel_rfl, by kernel_rfl⟩
/- internal/stringslite.IndexByte -/
def ac112 : AC := .seq
 (.reg [⟨some 4, .mov (.const (.int .i64 0)), none⟩])
 (.seq
 (.reg [⟨some 5, .mov (.tmp 0), none⟩,
 ⟨some 6, .mov (.tmp 1), none⟩,
 ⟨some 7, .call (.func 139) [(.tmp 5), (.tmp 6)], none⟩,
 ⟨some 4, .mov (.tmp 7), none⟩])
 (.ret))
theorem fn112 : Fun Tryz.prog 112 8 ac112 [.tmp 4] := ⟨mixedW, Tryz.f112, _, Tryz.func112, rfl, by decide +kernel, rfl, by kernel_rfl, by kernel_rfl⟩
end Go.Proofs.YtckjkdhmljfeeaaGreatDoor
