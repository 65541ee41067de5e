/- The compact texts of the functions, printed by a program of mine (wip/tools/PrintFn.lean); each is shown to be what the translation compiles to. -/
import Derived.Test.YtgphapkpoamcgaaAb17
import Derived.Test.YtgphapkpoamcgaaProg
set_option maxRecDepth 100000
namespace Go.Proofs.Ytgphapkpoamcgaa
open Go Go.Ab
theorem mixedA : Try.prog.follows .mixedOrders = true := by kernel_rfl
/- glossator/glossatorkeep2.FoldIsIdempotent -/
def ac5 : AC := .seq
 (.reg [⟨some 1, .box 39 7 (.tmp 0), none⟩,
   ⟨some 2, .mov (.const (.bool false)), none⟩])
 (.seq
  (.seq
   (.reg [⟨some 4, .call (.func 21) [], none⟩,
     ⟨some 5, .un .not (.tmp 4), none⟩])
   (.cond (.tmp 5)
    (.seq
     (.reg [⟨some 2, .mov (.const (.bool false)), none⟩])
     (.ret))
    (.skip)))
  (.seq
   (.reg [⟨some 6, .load true 7 (.tmp 1), none⟩,
     ⟨some 7, .call (.func 22) [(.tmp 6)], none⟩,
     ⟨some 3, .alloc 39 7 [(.int .i64 0), (.int .i64 0), (.string ⟨#[]⟩), (.int .i64 0), (.int .i64 0), (.int .i64 0), (.slice none 0 0)], none⟩,
     ⟨none, .store 7 (.tmp 3) (.tmp 7), none⟩])
   (.seq
    (.dreg [⟨some 8, .call (.func 21) [], none⟩,
      ⟨some 9, .mov (.tmp 8), none⟩,
      ⟨some 10, .load true 7 (.tmp 3), some (9, true)⟩,
      ⟨some 11, .call (.func 22) [(.tmp 10)], some (9, true)⟩,
      ⟨some 12, .load true 7 (.tmp 3), some (9, true)⟩,
      ⟨some 13, .call (.func 23) [(.tmp 11), (.tmp 12)], some (9, true)⟩,
      ⟨some 14, .pick (.tmp 9) (.tmp 13) (.const (.bool false)), none⟩,
      ⟨some 2, .mov (.tmp 14), none⟩]
      [[], [0, 0], [1], [2, 1, 1], [1], [3, 4, 3, 1], [1, 5], [6, 5, 0, 1, 2, 3, 4, 5, 6]]
      [[], [8], [3, 9], [10, 9], [3, 9], [11, 12, 9], [9, 13], [14]])
    (.ret))))
theorem fn5 : Fun Try.prog 5 15 ac5 [.tmp 2] := ⟨mixedA, Try.f5, _, Try.func5, rfl, by decide +kernel, rfl, by kernel_rfl, by kernel_rfl⟩
/- glossator/glossatorkeep2.FoldComputesArithmetic -/
def ac6 : AC := .seq
 (.reg [⟨some 6, .mov (.const (.bool false)), none⟩])
 (.seq
  (.seq
   (.reg [⟨some 15, .call (.func 21) [], none⟩,
     ⟨some 16, .un .not (.tmp 15), none⟩])
   (.cond (.tmp 16)
    (.seq
     (.reg [⟨some 6, .mov (.const (.bool false)), none⟩])
     (.ret))
    (.skip)))
  (.seq
   (.seq
    (.reg [⟨some 17, .call (.func 21) [], none⟩,
      ⟨some 18, .un .not (.tmp 17), none⟩,
      ⟨some 19, .mov (.tmp 18), none⟩,
      ⟨some 20, .mov (.tmp 0), some (19, false)⟩,
      ⟨some 21, .bin .leq .int (.tmp 20) (.const (.int .i64 (-2147483648))), some (19, false)⟩,
      ⟨some 22, .pick (.tmp 19) (.const (.bool true)) (.tmp 21), none⟩,
      ⟨some 23, .mov (.tmp 22), none⟩,
      ⟨some 24, .mov (.tmp 0), some (23, false)⟩,
      ⟨some 25, .bin .gtr .int (.tmp 24) (.const (.int .i64 2147483647)), some (23, false)⟩,
      ⟨some 26, .pick (.tmp 23) (.const (.bool true)) (.tmp 25), none⟩,
      ⟨some 27, .mov (.tmp 26), none⟩,
      ⟨some 28, .mov (.tmp 1), some (27, false)⟩,
      ⟨some 29, .bin .leq .int (.tmp 28) (.const (.int .i64 (-2147483648))), some (27, false)⟩,
      ⟨some 30, .pick (.tmp 27) (.const (.bool true)) (.tmp 29), none⟩,
      ⟨some 31, .mov (.tmp 30), none⟩,
      ⟨some 32, .mov (.tmp 1), some (31, false)⟩,
      ⟨some 33, .bin .gtr .int (.tmp 32) (.const (.int .i64 2147483647)), some (31, false)⟩,
      ⟨some 34, .pick (.tmp 31) (.const (.bool true)) (.tmp 33), none⟩])
    (.cond (.tmp 34)
     (.seq
      (.reg [⟨some 35, .call (.func 21) [], none⟩,
        ⟨some 6, .mov (.tmp 35), none⟩])
      (.ret))
     (.skip)))
   (.seq
    (.reg [⟨some 7, .mov (.func 24), none⟩])
    (.seq
     (.reg [⟨some 36, .bslice 9 1 [(.string ⟨#[]⟩)] 3 [(0, (.const (.string ⟨#[43]⟩))), (1, (.const (.string ⟨#[45]⟩))), (2, (.const (.string ⟨#[42]⟩)))], none⟩,
       ⟨some 8, .mov (.tmp 36), none⟩])
     (.seq
      (.reg [⟨some 37, .mov (.tmp 0), none⟩,
        ⟨some 38, .mov (.tmp 1), none⟩,
        ⟨some 39, .bin .add .int (.tmp 37) (.tmp 38), none⟩,
        ⟨some 40, .mov (.tmp 0), none⟩,
        ⟨some 41, .mov (.tmp 1), none⟩,
        ⟨some 42, .bin .sub .int (.tmp 40) (.tmp 41), none⟩,
        ⟨some 43, .mov (.tmp 0), none⟩,
        ⟨some 44, .mov (.tmp 1), none⟩,
        ⟨some 45, .bin .mul .int (.tmp 43) (.tmp 44), none⟩,
        ⟨some 46, .bslice 3 1 [(.int .i64 0)] 3 [(0, (.tmp 39)), (1, (.tmp 42)), (2, (.tmp 45))], none⟩,
        ⟨some 9, .mov (.tmp 46), none⟩])
      (.seq
       (.reg [⟨some 47, .mov (.tmp 2), none⟩,
         ⟨some 48, .conv .u64 (.tmp 47), none⟩,
         ⟨some 49, .bin .rem .int (.tmp 48) (.const (.int .u64 3)), none⟩,
         ⟨some 50, .conv .i64 (.tmp 49), none⟩,
         ⟨some 10, .mov (.tmp 50), none⟩])
       (.seq
        (.dreg [⟨some 52, .mov (.tmp 8), none⟩,
          ⟨some 53, .mov (.tmp 10), none⟩,
          ⟨some 54, .iaddr 1 (.tmp 52) (.tmp 53), none⟩,
          ⟨some 55, .load false 1 (.tmp 54), none⟩,
          ⟨some 56, .mov (.tmp 7), none⟩,
          ⟨some 57, .mov (.tmp 0), none⟩,
          ⟨some 58, .call (.tmp 56) [(.tmp 57)], none⟩,
          ⟨some 59, .mov (.tmp 7), none⟩,
          ⟨some 60, .mov (.tmp 1), none⟩,
          ⟨some 61, .call (.tmp 59) [(.tmp 60)], none⟩,
          ⟨some 62, .call (.func 27) [(.tmp 55), (.tmp 58), (.tmp 61)], none⟩,
          ⟨some 63, .call (.func 22) [(.tmp 62)], none⟩,
          ⟨some 64, .call (.func 26) [(.tmp 63)], none⟩,
          ⟨some 51, .mov (.tmp 64), none⟩,
          ⟨some 65, .ext (.tmp 51) 0, none⟩,
          ⟨some 66, .ext (.tmp 51) 1, none⟩,
          ⟨some 67, .ext (.tmp 51) 2, none⟩,
          ⟨some 11, .mov (.tmp 65), none⟩,
          ⟨some 12, .mov (.tmp 66), none⟩,
          ⟨some 13, .mov (.tmp 67), none⟩]
          [[], [], [0, 1], [2], [], [], [4, 5], [], [], [7, 8, 6], [3, 6, 9, 9], [10, 10], [11, 11], [12], [13], [13], [13], [14, 12, 0, 1, 2, 3, 4, 5, 6, 7, 8, 9, 10, 11, 12, 13, 14], [15, 17, 0, 1, 2, 3, 4, 5, 6, 7, 8, 9, 10, 11, 12, 13, 14, 15, 17], [16, 18, 0, 1, 2, 3, 4, 5, 6, 7, 8, 9, 10, 11, 12, 13, 14, 15, 16, 17, 18]]
          [[8], [10], [52, 53], [54], [7], [0], [56, 57], [7], [1], [59, 60], [55, 58, 61], [62], [63], [64], [51], [51], [51], [65], [66], [67]])
        (.seq
         (.reg [⟨some 68, .mov (.tmp 9), none⟩,
           ⟨some 69, .mov (.tmp 10), none⟩,
           ⟨some 70, .iaddr 1 (.tmp 68) (.tmp 69), none⟩,
           ⟨some 71, .load false 1 (.tmp 70), none⟩,
           ⟨some 72, .bin .gtr .int (.tmp 71) (.const (.int .i64 (-2147483648))), none⟩,
           ⟨some 73, .mov (.tmp 72), none⟩,
           ⟨some 74, .mov (.tmp 9), some (73, true)⟩,
           ⟨some 75, .mov (.tmp 10), some (73, true)⟩,
           ⟨some 76, .iaddr 1 (.tmp 74) (.tmp 75), some (73, true)⟩,
           ⟨some 77, .load false 1 (.tmp 76), some (73, true)⟩,
           ⟨some 78, .bin .leq .int (.tmp 77) (.const (.int .i64 2147483647)), some (73, true)⟩,
           ⟨some 79, .pick (.tmp 73) (.tmp 78) (.const (.bool false)), none⟩,
           ⟨some 14, .mov (.tmp 79), none⟩])
         (.seq
          (.reg [⟨some 80, .mov (.tmp 13), none⟩,
            ⟨some 81, .mov (.tmp 14), none⟩,
            ⟨some 82, .bin .eql .bool (.tmp 80) (.tmp 81), none⟩,
            ⟨some 83, .mov (.tmp 82), none⟩,
            ⟨some 84, .mov (.tmp 13), some (83, true)⟩,
            ⟨some 85, .un .not (.tmp 84), some (83, true)⟩,
            ⟨some 86, .mov (.tmp 85), some (83, true)⟩,
            ⟨some 87, .mov (.tmp 12), some (86, false)⟩,
            ⟨some 88, .un .not (.tmp 87), some (86, false)⟩,
            ⟨some 89, .mov (.tmp 88), some (86, false)⟩,
            ⟨some 90, .mov (.tmp 11), some (89, true)⟩,
            ⟨some 91, .mov (.tmp 9), some (89, true)⟩,
            ⟨some 92, .mov (.tmp 10), some (89, true)⟩,
            ⟨some 93, .iaddr 1 (.tmp 91) (.tmp 92), some (89, true)⟩,
            ⟨some 94, .load false 1 (.tmp 93), some (89, true)⟩,
            ⟨some 95, .bin .eql .int (.tmp 90) (.tmp 94), some (89, true)⟩,
            ⟨some 96, .pick (.tmp 89) (.tmp 95) (.const (.bool false)), some (86, false)⟩,
            ⟨some 97, .pick (.tmp 86) (.const (.bool true)) (.tmp 96), some (83, true)⟩,
            ⟨some 98, .pick (.tmp 83) (.tmp 97) (.const (.bool false)), none⟩,
            ⟨some 6, .mov (.tmp 98), none⟩])
          (.ret))))))))))
theorem fn6 : Fun Try.prog 6 99 ac6 [.tmp 6] := ⟨mixedA, Try.f6, _, Try.func6, rfl, by decide +kernel, rfl, by kernel_rfl, by kernel_rfl⟩
/- glossator/glossatorlaw2.FoldMatchesReference -/
def ac7 : AC := .seq
 (.reg [⟨some 1, .box 39 7 (.tmp 0), none⟩,
   ⟨some 2, .mov (.const (.bool false)), none⟩])
 (.seq
  (.seq
   (.reg [⟨some 8, .call (.func 28) [], none⟩,
     ⟨some 9, .un .not (.tmp 8), none⟩])
   (.cond (.tmp 9)
    (.seq
     (.reg [⟨some 2, .mov (.const (.bool false)), none⟩])
     (.ret))
    (.skip)))
  (.seq
   (.reg [⟨some 11, .load true 7 (.tmp 1), none⟩,
     ⟨some 12, .call (.func 26) [(.tmp 11)], none⟩,
     ⟨some 10, .mov (.tmp 12), none⟩,
     ⟨some 13, .ext (.tmp 10) 0, none⟩,
     ⟨some 14, .ext (.tmp 10) 1, none⟩,
     ⟨some 15, .ext (.tmp 10) 2, none⟩,
     ⟨some 3, .mov (.tmp 13), none⟩,
     ⟨some 4, .mov (.tmp 14), none⟩,
     ⟨some 5, .mov (.tmp 15), none⟩])
   (.seq
    (.reg [⟨some 17, .load true 7 (.tmp 1), none⟩,
      ⟨some 18, .call (.func 29) [(.tmp 17)], none⟩,
      ⟨some 16, .mov (.tmp 18), none⟩,
      ⟨some 19, .ext (.tmp 16) 0, none⟩,
      ⟨some 20, .ext (.tmp 16) 1, none⟩,
      ⟨some 6, .mov (.tmp 19), none⟩,
      ⟨some 7, .mov (.tmp 20), none⟩])
    (.seq
     (.dreg [⟨some 21, .mov (.tmp 3), none⟩,
       ⟨some 22, .mov (.tmp 6), none⟩,
       ⟨some 23, .bin .eql .int (.tmp 21) (.tmp 22), none⟩,
       ⟨some 24, .mov (.tmp 23), none⟩,
       ⟨some 25, .mov (.tmp 4), some (24, true)⟩,
       ⟨some 26, .mov (.tmp 7), some (24, true)⟩,
       ⟨some 27, .bin .eql .int (.tmp 26) (.const (.int .i64 2)), some (24, true)⟩,
       ⟨some 28, .bin .eql .bool (.tmp 25) (.tmp 27), some (24, true)⟩,
       ⟨some 29, .pick (.tmp 24) (.tmp 28) (.const (.bool false)), none⟩,
       ⟨some 30, .mov (.tmp 29), none⟩,
       ⟨some 31, .mov (.tmp 5), some (30, true)⟩,
       ⟨some 32, .mov (.tmp 7), some (30, true)⟩,
       ⟨some 33, .bin .neq .int (.tmp 32) (.const (.int .i64 0)), some (30, true)⟩,
       ⟨some 34, .bin .eql .bool (.tmp 31) (.tmp 33), some (30, true)⟩,
       ⟨some 35, .pick (.tmp 30) (.tmp 34) (.const (.bool false)), none⟩,
       ⟨some 36, .mov (.tmp 35), none⟩,
       ⟨some 37, .load true 7 (.tmp 1), some (36, true)⟩,
       ⟨some 38, .call (.func 22) [(.tmp 37)], some (36, true)⟩,
       ⟨some 39, .load true 7 (.tmp 1), some (36, true)⟩,
       ⟨some 40, .call (.func 30) [(.tmp 39)], some (36, true)⟩,
       ⟨some 41, .call (.func 23) [(.tmp 38), (.tmp 40)], some (36, true)⟩,
       ⟨some 42, .pick (.tmp 36) (.tmp 41) (.const (.bool false)), none⟩,
       ⟨some 2, .mov (.tmp 42), none⟩]
       [[], [], [0, 1], [2], [3], [3], [5, 3], [4, 6, 3], [3, 7], [8, 3], [9], [9], [11, 9], [10, 12, 9], [9, 13], [14, 9], [15], [16, 15, 15], [15], [18, 17, 15], [17, 19, 19, 15], [15, 20], [21, 20, 0, 1, 2, 3, 4, 5, 6, 7, 8, 9, 10, 11, 12, 13, 14, 15, 16, 17, 18, 19, 20, 21]]
       [[3], [6], [21, 22], [23], [4, 24], [7, 24], [26, 24], [25, 27, 24], [24, 28], [29], [5, 30], [7, 30], [32, 30], [31, 33, 30], [30, 34], [35], [1, 36], [37, 36], [1, 36], [39, 36], [38, 40, 36], [36, 41], [42]])
     (.ret)))))
theorem fn7 : Fun Try.prog 7 43 ac7 [.tmp 2] := ⟨mixedA, Try.f7, _, Try.func7, rfl, by decide +kernel, rfl, by kernel_rfl, by kernel_rfl⟩
/- glossator/glossatorkeep2.constfoldWorks -/
def ac21 : AC := .seq
 (.reg [⟨some 0, .mov (.const (.bool false)), none⟩])
 (.seq
  (.reg [⟨some 5, .call (.func 25) [(.const (.int .i64 1))], none⟩,
    ⟨some 6, .call (.func 25) [(.const (.int .i64 2))], none⟩,
    ⟨some 7, .call (.func 25) [(.const (.int .i64 3))], none⟩,
    ⟨some 8, .call (.func 27) [(.const (.string ⟨#[42]⟩)), (.tmp 6), (.tmp 7)], none⟩,
    ⟨some 9, .call (.func 27) [(.const (.string ⟨#[43]⟩)), (.tmp 5), (.tmp 8)], none⟩,
    ⟨some 10, .call (.func 25) [(.const (.int .i64 8))], none⟩,
    ⟨some 11, .call (.func 27) [(.const (.string ⟨#[60]⟩)), (.tmp 9), (.tmp 10)], none⟩,
    ⟨some 12, .call (.func 22) [(.tmp 11)], none⟩,
    ⟨some 13, .call (.func 26) [(.tmp 12)], none⟩,
    ⟨some 4, .mov (.tmp 13), none⟩,
    ⟨some 14, .ext (.tmp 4) 0, none⟩,
    ⟨some 15, .ext (.tmp 4) 1, none⟩,
    ⟨some 16, .ext (.tmp 4) 2, none⟩,
    ⟨some 1, .mov (.tmp 14), none⟩,
    ⟨some 2, .mov (.tmp 15), none⟩,
    ⟨some 3, .mov (.tmp 16), none⟩])
  (.seq
   (.reg [⟨some 17, .mov (.tmp 1), none⟩,
     ⟨some 18, .bin .eql .int (.tmp 17) (.const (.int .i64 1)), none⟩,
     ⟨some 19, .mov (.tmp 18), none⟩,
     ⟨some 20, .mov (.tmp 2), some (19, true)⟩,
     ⟨some 21, .pick (.tmp 19) (.tmp 20) (.const (.bool false)), none⟩,
     ⟨some 22, .mov (.tmp 21), none⟩,
     ⟨some 23, .mov (.tmp 3), some (22, true)⟩,
     ⟨some 24, .pick (.tmp 22) (.tmp 23) (.const (.bool false)), none⟩,
     ⟨some 0, .mov (.tmp 24), none⟩])
   (.ret)))
theorem fn21 : Fun Try.prog 21 25 ac21 [.tmp 0] := ⟨mixedA, Try.f21, _, Try.func21, rfl, by decide +kernel, rfl, by kernel_rfl, by kernel_rfl⟩
/- glossator/constfold.Fold -/
def ac22_l0 : AC := .seq
 (.reg [⟨some 10, .bin .lss .int (.tmp 9) (.tmp 8), none⟩])
 (.seq
  (.cond (.tmp 10)
   (.skip)
   (.exit 0))
  (.seq
   (.block 1
    (.seq
     (.reg [⟨some 11, .iaddr 7 (.tmp 7) (.tmp 9), none⟩,
       ⟨some 12, .load true 7 (.tmp 11), none⟩,
       ⟨some 5, .alloc 39 7 [(.int .i64 0), (.int .i64 0), (.string ⟨#[]⟩), (.int .i64 0), (.int .i64 0), (.int .i64 0), (.slice none 0 0)], none⟩,
       ⟨none, .store 7 (.tmp 5) (.tmp 12), none⟩])
     (.reg [⟨some 13, .mov (.tmp 3), none⟩,
       ⟨some 14, .load true 7 (.tmp 5), none⟩,
       ⟨some 15, .call (.func 22) [(.tmp 14)], none⟩,
       ⟨some 16, .bslice 39 7 [(.int .i64 0), (.int .i64 0), (.string ⟨#[]⟩), (.int .i64 0), (.int .i64 0), (.int .i64 0), (.slice none 0 0)] 1 [(0, (.tmp 15))], none⟩,
       ⟨some 17, .app 39 7 (.tmp 13) (.tmp 16), none⟩,
       ⟨some 3, .mov (.tmp 17), none⟩])))
   (.reg [⟨some 18, .bin .add .int (.tmp 9) (.const (.int .i64 1)), none⟩,
     ⟨some 9, .mov (.tmp 18), none⟩])))
def ac22 : AC := .seq
 (.reg [⟨some 1, .box 39 7 (.tmp 0), none⟩,
   ⟨some 2, .alloc 39 7 [(.int .i64 0), (.int .i64 0), (.string ⟨#[]⟩), (.int .i64 0), (.int .i64 0), (.int .i64 0), (.slice none 0 0)], none⟩])
 (.seq
  (.reg [⟨some 3, .mov (.const (.slice none 0 0)), none⟩])
  (.seq
   (.seq
    (.reg [⟨some 6, .faddr 6 (.tmp 1), none⟩,
      ⟨some 7, .load false 1 (.tmp 6), none⟩,
      ⟨some 8, .slen false (.tmp 7), none⟩,
      ⟨some 9, .mov (.const (.int .i64 0)), none⟩])
    (.block 0
     (.loop ac22_l0)))
   (.seq
    (.reg [⟨some 19, .mov (.tmp 3), none⟩,
      ⟨some 20, .faddr 6 (.tmp 1), none⟩,
      ⟨none, .store 1 (.tmp 20) (.tmp 19), none⟩])
    (.seq
     (.block 2
      (.seq
       (.reg [⟨some 22, .faddr 0 (.tmp 1), none⟩,
         ⟨some 23, .load false 1 (.tmp 22), none⟩,
         ⟨some 24, .bin .eql .int (.tmp 23) (.const (.int .i64 39)), none⟩,
         ⟨some 25, .mov (.tmp 24), none⟩,
         ⟨some 26, .mov (.tmp 3), some (25, true)⟩,
         ⟨some 27, .slen false (.tmp 26), some (25, true)⟩,
         ⟨some 28, .bin .eql .int (.tmp 27) (.const (.int .i64 2)), some (25, true)⟩,
         ⟨some 29, .pick (.tmp 25) (.tmp 28) (.const (.bool false)), none⟩,
         ⟨some 21, .mov (.tmp 29), none⟩])
       (.cond (.tmp 21)
        (.seq
         (.reg [⟨some 30, .load true 7 (.tmp 1), none⟩,
           ⟨some 31, .call (.func 74) [(.tmp 30)], none⟩,
           ⟨none, .store 7 (.tmp 2) (.tmp 31), none⟩])
         (.ret))
        (.seq
         (.reg [⟨some 33, .faddr 0 (.tmp 1), none⟩,
           ⟨some 34, .load false 1 (.tmp 33), none⟩,
           ⟨some 35, .bin .eql .int (.tmp 34) (.const (.int .i64 40)), none⟩,
           ⟨some 36, .mov (.tmp 35), none⟩,
           ⟨some 37, .mov (.tmp 3), some (36, true)⟩,
           ⟨some 38, .slen false (.tmp 37), some (36, true)⟩,
           ⟨some 39, .bin .eql .int (.tmp 38) (.const (.int .i64 1)), some (36, true)⟩,
           ⟨some 40, .pick (.tmp 36) (.tmp 39) (.const (.bool false)), none⟩,
           ⟨some 32, .mov (.tmp 40), none⟩])
         (.cond (.tmp 32)
          (.seq
           (.reg [⟨some 41, .load true 7 (.tmp 1), none⟩,
             ⟨some 42, .call (.func 75) [(.tmp 41)], none⟩,
             ⟨none, .store 7 (.tmp 2) (.tmp 42), none⟩])
           (.ret))
          (.skip))))))
     (.seq
      (.reg [⟨some 43, .load true 7 (.tmp 1), none⟩,
        ⟨none, .store 7 (.tmp 2) (.tmp 43), none⟩])
      (.ret))))))
theorem fn22 : Fun Try.prog 22 44 ac22 [.cell 2 7 true] := ⟨mixedA, Try.f22, _, Try.func22, rfl, by decide +kernel, rfl, by kernel_rfl, by kernel_rfl⟩
/- glossator/glossatorref2.NodesEqual -/
def ac23_l0 : AC := .seq
 (.reg [⟨some 59, .bin .lss .int (.tmp 58) (.tmp 57), none⟩])
 (.seq
  (.cond (.tmp 59)
   (.skip)
   (.exit 0))
  (.seq
   (.block 1
    (.seq
     (.reg [⟨some 60, .mov (.tmp 58), none⟩,
       ⟨some 5, .mov (.tmp 60), none⟩])
     (.seq
      (.dreg [⟨some 61, .faddr 6 (.tmp 2), none⟩,
        ⟨some 62, .load false 1 (.tmp 61), none⟩,
        ⟨some 63, .mov (.tmp 5), none⟩,
        ⟨some 64, .iaddr 7 (.tmp 62) (.tmp 63), none⟩,
        ⟨some 65, .load true 7 (.tmp 64), none⟩,
        ⟨some 66, .faddr 6 (.tmp 3), none⟩,
        ⟨some 67, .load false 1 (.tmp 66), none⟩,
        ⟨some 68, .mov (.tmp 5), none⟩,
        ⟨some 69, .iaddr 7 (.tmp 67) (.tmp 68), none⟩,
        ⟨some 70, .load true 7 (.tmp 69), none⟩,
        ⟨some 71, .call (.func 23) [(.tmp 65), (.tmp 70)], none⟩,
        ⟨some 72, .un .not (.tmp 71), none⟩]
        [[], [0], [], [1, 2], [3], [], [5], [], [6, 7], [8], [4, 9], [10]]
        [[2], [61], [5], [62, 63], [64], [3], [66], [5], [67, 68], [69], [65, 70], [71]])
      (.cond (.tmp 72)
       (.seq
        (.reg [⟨some 4, .mov (.const (.bool false)), none⟩])
        (.ret))
       (.skip)))))
   (.reg [⟨some 73, .bin .add .int (.tmp 58) (.const (.int .i64 1)), none⟩,
     ⟨some 58, .mov (.tmp 73), none⟩])))
def ac23 : AC := .seq
 (.reg [⟨some 2, .box 39 7 (.tmp 0), none⟩,
   ⟨some 3, .box 39 7 (.tmp 1), none⟩,
   ⟨some 4, .mov (.const (.bool false)), none⟩])
 (.seq
  (.seq
   (.reg [⟨some 6, .faddr 0 (.tmp 2), none⟩,
     ⟨some 7, .load false 1 (.tmp 6), none⟩,
     ⟨some 8, .faddr 0 (.tmp 3), none⟩,
     ⟨some 9, .load false 1 (.tmp 8), none⟩,
     ⟨some 10, .bin .neq .int (.tmp 7) (.tmp 9), none⟩,
     ⟨some 11, .mov (.tmp 10), none⟩,
     ⟨some 12, .faddr 1 (.tmp 2), some (11, false)⟩,
     ⟨some 13, .load false 1 (.tmp 12), some (11, false)⟩,
     ⟨some 14, .faddr 1 (.tmp 3), some (11, false)⟩,
     ⟨some 15, .load false 1 (.tmp 14), some (11, false)⟩,
     ⟨some 16, .bin .neq .int (.tmp 13) (.tmp 15), some (11, false)⟩,
     ⟨some 17, .pick (.tmp 11) (.const (.bool true)) (.tmp 16), none⟩,
     ⟨some 18, .mov (.tmp 17), none⟩,
     ⟨some 19, .faddr 2 (.tmp 2), some (18, false)⟩,
     ⟨some 20, .load false 1 (.tmp 19), some (18, false)⟩,
     ⟨some 21, .faddr 2 (.tmp 3), some (18, false)⟩,
     ⟨some 22, .load false 1 (.tmp 21), some (18, false)⟩,
     ⟨some 23, .bin .neq .str (.tmp 20) (.tmp 22), some (18, false)⟩,
     ⟨some 24, .pick (.tmp 18) (.const (.bool true)) (.tmp 23), none⟩,
     ⟨some 25, .mov (.tmp 24), none⟩,
     ⟨some 26, .faddr 3 (.tmp 2), some (25, false)⟩,
     ⟨some 27, .load false 1 (.tmp 26), some (25, false)⟩,
     ⟨some 28, .faddr 3 (.tmp 3), some (25, false)⟩,
     ⟨some 29, .load false 1 (.tmp 28), some (25, false)⟩,
     ⟨some 30, .bin .neq .int (.tmp 27) (.tmp 29), some (25, false)⟩,
     ⟨some 31, .pick (.tmp 25) (.const (.bool true)) (.tmp 30), none⟩,
     ⟨some 32, .mov (.tmp 31), none⟩,
     ⟨some 33, .faddr 4 (.tmp 2), some (32, false)⟩,
     ⟨some 34, .load false 1 (.tmp 33), some (32, false)⟩,
     ⟨some 35, .faddr 4 (.tmp 3), some (32, false)⟩,
     ⟨some 36, .load false 1 (.tmp 35), some (32, false)⟩,
     ⟨some 37, .bin .neq .int (.tmp 34) (.tmp 36), some (32, false)⟩,
     ⟨some 38, .pick (.tmp 32) (.const (.bool true)) (.tmp 37), none⟩,
     ⟨some 39, .mov (.tmp 38), none⟩,
     ⟨some 40, .faddr 5 (.tmp 2), some (39, false)⟩,
     ⟨some 41, .load false 1 (.tmp 40), some (39, false)⟩,
     ⟨some 42, .faddr 5 (.tmp 3), some (39, false)⟩,
     ⟨some 43, .load false 1 (.tmp 42), some (39, false)⟩,
     ⟨some 44, .bin .neq .int (.tmp 41) (.tmp 43), some (39, false)⟩,
     ⟨some 45, .pick (.tmp 39) (.const (.bool true)) (.tmp 44), none⟩,
     ⟨some 46, .mov (.tmp 45), none⟩,
     ⟨some 47, .faddr 6 (.tmp 2), some (46, false)⟩,
     ⟨some 48, .load false 1 (.tmp 47), some (46, false)⟩,
     ⟨some 49, .slen false (.tmp 48), some (46, false)⟩,
     ⟨some 50, .faddr 6 (.tmp 3), some (46, false)⟩,
     ⟨some 51, .load false 1 (.tmp 50), some (46, false)⟩,
     ⟨some 52, .slen false (.tmp 51), some (46, false)⟩,
     ⟨some 53, .bin .neq .int (.tmp 49) (.tmp 52), some (46, false)⟩,
     ⟨some 54, .pick (.tmp 46) (.const (.bool true)) (.tmp 53), none⟩])
   (.cond (.tmp 54)
    (.seq
     (.reg [⟨some 4, .mov (.const (.bool false)), none⟩])
     (.ret))
    (.skip)))
  (.seq
   (.seq
    (.reg [⟨some 55, .faddr 6 (.tmp 2), none⟩,
      ⟨some 56, .load false 1 (.tmp 55), none⟩,
      ⟨some 57, .slen false (.tmp 56), none⟩,
      ⟨some 58, .mov (.const (.int .i64 0)), none⟩])
    (.block 0
     (.loop ac23_l0)))
   (.seq
    (.reg [⟨some 4, .mov (.const (.bool true)), none⟩])
    (.ret))))
theorem fn23 : Fun Try.prog 23 74 ac23 [.tmp 4] := ⟨mixedA, Try.f23, _, Try.func23, rfl, by decide +kernel, rfl, by kernel_rfl, by kernel_rfl⟩
/- glossator/glossatorkeep2.FoldComputesArithmetic$1 -/
def ac24 : AC := .seq
 (.reg [⟨some 2, .alloc 39 7 [(.int .i64 0), (.int .i64 0), (.string ⟨#[]⟩), (.int .i64 0), (.int .i64 0), (.int .i64 0), (.slice none 0 0)], none⟩])
 (.seq
  (.seq
   (.reg [⟨some 3, .mov (.tmp 0), none⟩,
     ⟨some 4, .bin .lss .int (.tmp 3) (.const (.int .i64 0)), none⟩])
   (.cond (.tmp 4)
    (.seq
     (.reg [⟨some 5, .mov (.tmp 0), none⟩,
       ⟨some 6, .un .neg (.tmp 5), none⟩,
       ⟨some 7, .call (.func 25) [(.tmp 6)], none⟩,
       ⟨some 8, .bslice 39 7 [(.int .i64 0), (.int .i64 0), (.string ⟨#[]⟩), (.int .i64 0), (.int .i64 0), (.int .i64 0), (.slice none 0 0)] 1 [(0, (.tmp 7))], none⟩,
       ⟨some 9, .build [(.int .i64 0), (.int .i64 0), (.string ⟨#[]⟩), (.int .i64 0), (.int .i64 0), (.int .i64 0), (.slice none 0 0)] [(0, 1), (1, 1), (2, 1), (3, 1), (4, 1), (5, 1), (6, 1)] [(0, (.const (.int .i64 40))), (2, (.const (.string ⟨#[45]⟩))), (5, (.const (.int .i64 (-1)))), (6, (.tmp 8))], none⟩,
       ⟨none, .store 7 (.tmp 2) (.tmp 9), none⟩])
     (.ret))
    (.skip)))
  (.seq
   (.reg [⟨some 10, .mov (.tmp 0), none⟩,
     ⟨some 11, .call (.func 25) [(.tmp 10)], none⟩,
     ⟨none, .store 7 (.tmp 2) (.tmp 11), none⟩])
   (.ret)))
theorem fn24 : Fun Try.prog 24 12 ac24 [.cell 2 7 true] := ⟨mixedA, Try.f24, _, Try.func24, rfl, by decide +kernel, rfl, by kernel_rfl, by kernel_rfl⟩
/- glossator/glossatorkeep2.intLiteral -/
def ac25 : AC := .seq
 (.reg [⟨some 2, .alloc 39 7 [(.int .i64 0), (.int .i64 0), (.string ⟨#[]⟩), (.int .i64 0), (.int .i64 0), (.int .i64 0), (.slice none 0 0)], none⟩])
 (.seq
  (.reg [⟨some 3, .mov (.tmp 0), none⟩,
    ⟨some 4, .build [(.int .i64 0), (.int .i64 0), (.string ⟨#[]⟩), (.int .i64 0), (.int .i64 0), (.int .i64 0), (.slice none 0 0)] [(0, 1), (1, 1), (2, 1), (3, 1), (4, 1), (5, 1), (6, 1)] [(0, (.const (.int .i64 27))), (1, (.tmp 3)), (5, (.const (.int .i64 (-1))))], none⟩,
    ⟨none, .store 7 (.tmp 2) (.tmp 4), none⟩])
  (.ret))
theorem fn25 : Fun Try.prog 25 5 ac25 [.cell 2 7 true] := ⟨mixedA, Try.f25, _, Try.func25, rfl, by decide +kernel, rfl, by kernel_rfl, by kernel_rfl⟩
/- glossator/constfold.Value -/
def ac26 : AC := .seq
 (.reg [⟨some 1, .box 39 7 (.tmp 0), none⟩,
   ⟨some 2, .mov (.const (.int .i64 0)), none⟩,
   ⟨some 3, .mov (.const (.bool false)), none⟩,
   ⟨some 4, .mov (.const (.bool false)), none⟩])
 (.seq
  (.seq
   (.reg [⟨some 5, .faddr 0 (.tmp 1), none⟩,
     ⟨some 6, .load false 1 (.tmp 5), none⟩])
   (.block 0
    (.seq
     (.reg [⟨some 8, .bin .eql .int (.tmp 6) (.const (.int .i64 27)), none⟩,
       ⟨some 7, .mov (.tmp 8), none⟩])
     (.cond (.tmp 7)
      (.seq
       (.reg [⟨some 9, .faddr 1 (.tmp 1), none⟩,
         ⟨some 10, .load false 1 (.tmp 9), none⟩,
         ⟨some 11, .bin .geq .int (.tmp 10) (.const (.int .i64 0)), none⟩,
         ⟨some 12, .mov (.tmp 11), none⟩,
         ⟨some 13, .faddr 1 (.tmp 1), some (12, true)⟩,
         ⟨some 14, .load false 1 (.tmp 13), some (12, true)⟩,
         ⟨some 15, .bin .leq .int (.tmp 14) (.const (.int .i64 2147483647)), some (12, true)⟩,
         ⟨some 16, .pick (.tmp 12) (.tmp 15) (.const (.bool false)), none⟩])
       (.cond (.tmp 16)
        (.seq
         (.reg [⟨some 17, .faddr 1 (.tmp 1), none⟩,
           ⟨some 18, .load false 1 (.tmp 17), none⟩,
           ⟨some 2, .mov (.tmp 18), none⟩,
           ⟨some 3, .mov (.const (.bool false)), none⟩,
           ⟨some 4, .mov (.const (.bool true)), none⟩])
         (.ret))
        (.skip)))
      (.seq
       (.reg [⟨some 20, .bin .eql .int (.tmp 6) (.const (.int .i64 28)), none⟩,
         ⟨some 19, .mov (.tmp 20), none⟩])
       (.cond (.tmp 19)
        (.seq
         (.reg [⟨some 21, .faddr 1 (.tmp 1), none⟩,
           ⟨some 22, .load false 1 (.tmp 21), none⟩,
           ⟨some 23, .bin .eql .int (.tmp 22) (.const (.int .i64 0)), none⟩,
           ⟨some 24, .mov (.tmp 23), none⟩,
           ⟨some 25, .faddr 1 (.tmp 1), some (24, false)⟩,
           ⟨some 26, .load false 1 (.tmp 25), some (24, false)⟩,
           ⟨some 27, .bin .eql .int (.tmp 26) (.const (.int .i64 1)), some (24, false)⟩,
           ⟨some 28, .pick (.tmp 24) (.const (.bool true)) (.tmp 27), none⟩])
         (.cond (.tmp 28)
          (.seq
           (.reg [⟨some 29, .faddr 1 (.tmp 1), none⟩,
             ⟨some 30, .load false 1 (.tmp 29), none⟩,
             ⟨some 2, .mov (.tmp 30), none⟩,
             ⟨some 3, .mov (.const (.bool true)), none⟩,
             ⟨some 4, .mov (.const (.bool true)), none⟩])
           (.ret))
          (.skip)))
        (.seq
         (.reg [⟨some 32, .bin .eql .int (.tmp 6) (.const (.int .i64 40)), none⟩,
           ⟨some 31, .mov (.tmp 32), none⟩])
         (.cond (.tmp 31)
          (.seq
           (.reg [⟨some 33, .faddr 2 (.tmp 1), none⟩,
             ⟨some 34, .load false 1 (.tmp 33), none⟩,
             ⟨some 35, .bin .eql .str (.tmp 34) (.const (.string ⟨#[45]⟩)), none⟩,
             ⟨some 36, .mov (.tmp 35), none⟩,
             ⟨some 37, .faddr 6 (.tmp 1), some (36, true)⟩,
             ⟨some 38, .load false 1 (.tmp 37), some (36, true)⟩,
             ⟨some 39, .slen false (.tmp 38), some (36, true)⟩,
             ⟨some 40, .bin .eql .int (.tmp 39) (.const (.int .i64 1)), some (36, true)⟩,
             ⟨some 41, .pick (.tmp 36) (.tmp 40) (.const (.bool false)), none⟩,
             ⟨some 42, .mov (.tmp 41), none⟩,
             ⟨some 43, .faddr 6 (.tmp 1), some (42, true)⟩,
             ⟨some 44, .load false 1 (.tmp 43), some (42, true)⟩,
             ⟨some 45, .iaddr 7 (.tmp 44) (.const (.int .i64 0)), some (42, true)⟩,
             ⟨some 46, .faddr 0 (.tmp 45), some (42, true)⟩,
             ⟨some 47, .load false 1 (.tmp 46), some (42, true)⟩,
             ⟨some 48, .bin .eql .int (.tmp 47) (.const (.int .i64 27)), some (42, true)⟩,
             ⟨some 49, .pick (.tmp 42) (.tmp 48) (.const (.bool false)), none⟩,
             ⟨some 50, .mov (.tmp 49), none⟩,
             ⟨some 51, .faddr 6 (.tmp 1), some (50, true)⟩,
             ⟨some 52, .load false 1 (.tmp 51), some (50, true)⟩,
             ⟨some 53, .iaddr 7 (.tmp 52) (.const (.int .i64 0)), some (50, true)⟩,
             ⟨some 54, .faddr 1 (.tmp 53), some (50, true)⟩,
             ⟨some 55, .load false 1 (.tmp 54), some (50, true)⟩,
             ⟨some 56, .bin .gtr .int (.tmp 55) (.const (.int .i64 0)), some (50, true)⟩,
             ⟨some 57, .pick (.tmp 50) (.tmp 56) (.const (.bool false)), none⟩,
             ⟨some 58, .mov (.tmp 57), none⟩,
             ⟨some 59, .faddr 6 (.tmp 1), some (58, true)⟩,
             ⟨some 60, .load false 1 (.tmp 59), some (58, true)⟩,
             ⟨some 61, .iaddr 7 (.tmp 60) (.const (.int .i64 0)), some (58, true)⟩,
             ⟨some 62, .faddr 1 (.tmp 61), some (58, true)⟩,
             ⟨some 63, .load false 1 (.tmp 62), some (58, true)⟩,
             ⟨some 64, .bin .leq .int (.tmp 63) (.const (.int .i64 2147483647)), some (58, true)⟩,
             ⟨some 65, .pick (.tmp 58) (.tmp 64) (.const (.bool false)), none⟩])
           (.cond (.tmp 65)
            (.seq
             (.reg [⟨some 66, .faddr 6 (.tmp 1), none⟩,
               ⟨some 67, .load false 1 (.tmp 66), none⟩,
               ⟨some 68, .iaddr 7 (.tmp 67) (.const (.int .i64 0)), none⟩,
               ⟨some 69, .faddr 1 (.tmp 68), none⟩,
               ⟨some 70, .load false 1 (.tmp 69), none⟩,
               ⟨some 71, .un .neg (.tmp 70), none⟩,
               ⟨some 2, .mov (.tmp 71), none⟩,
               ⟨some 3, .mov (.const (.bool false)), none⟩,
               ⟨some 4, .mov (.const (.bool true)), none⟩])
             (.ret))
            (.skip)))
          (.skip)))))))))
  (.seq
   (.reg [⟨some 2, .mov (.const (.int .i64 0)), none⟩,
     ⟨some 3, .mov (.const (.bool false)), none⟩,
     ⟨some 4, .mov (.const (.bool false)), none⟩])
   (.ret)))
theorem fn26 : Fun Try.prog 26 72 ac26 [.tmp 2, .tmp 3, .tmp 4] := ⟨mixedA, Try.f26, _, Try.func26, rfl, by decide +kernel, rfl, by kernel_rfl, by kernel_rfl⟩
/- glossator/glossatorkeep2.binaryNode -/
def ac27 : AC := .seq
 (.reg [⟨some 4, .box 39 7 (.tmp 1), none⟩,
   ⟨some 5, .box 39 7 (.tmp 2), none⟩,
   ⟨some 6, .alloc 39 7 [(.int .i64 0), (.int .i64 0), (.string ⟨#[]⟩), (.int .i64 0), (.int .i64 0), (.int .i64 0), (.slice none 0 0)], none⟩])
 (.seq
  (.reg [⟨some 7, .mov (.tmp 0), none⟩,
    ⟨some 8, .load true 7 (.tmp 4), none⟩,
    ⟨some 9, .load true 7 (.tmp 5), none⟩,
    ⟨some 10, .bslice 39 7 [(.int .i64 0), (.int .i64 0), (.string ⟨#[]⟩), (.int .i64 0), (.int .i64 0), (.int .i64 0), (.slice none 0 0)] 2 [(0, (.tmp 8)), (1, (.tmp 9))], none⟩,
    ⟨some 11, .build [(.int .i64 0), (.int .i64 0), (.string ⟨#[]⟩), (.int .i64 0), (.int .i64 0), (.int .i64 0), (.slice none 0 0)] [(0, 1), (1, 1), (2, 1), (3, 1), (4, 1), (5, 1), (6, 1)] [(0, (.const (.int .i64 39))), (2, (.tmp 7)), (5, (.const (.int .i64 (-1)))), (6, (.tmp 10))], none⟩,
    ⟨none, .store 7 (.tmp 6) (.tmp 11), none⟩])
  (.ret))
theorem fn27 : Fun Try.prog 27 12 ac27 [.cell 6 7 true] := ⟨mixedA, Try.f27, _, Try.func27, rfl, by decide +kernel, rfl, by kernel_rfl, by kernel_rfl⟩
/- glossator/glossatorlaw2.constfoldWorks -/
def ac28 : AC := .seq
 (.reg [⟨some 0, .mov (.const (.bool false)), none⟩])
 (.seq
  (.reg [⟨some 5, .call (.func 77) [(.const (.int .i64 1))], none⟩,
    ⟨some 6, .call (.func 77) [(.const (.int .i64 2))], none⟩,
    ⟨some 7, .call (.func 77) [(.const (.int .i64 3))], none⟩,
    ⟨some 8, .call (.func 76) [(.const (.string ⟨#[42]⟩)), (.tmp 6), (.tmp 7)], none⟩,
    ⟨some 9, .call (.func 76) [(.const (.string ⟨#[43]⟩)), (.tmp 5), (.tmp 8)], none⟩,
    ⟨some 10, .call (.func 77) [(.const (.int .i64 8))], none⟩,
    ⟨some 11, .call (.func 76) [(.const (.string ⟨#[60]⟩)), (.tmp 9), (.tmp 10)], none⟩,
    ⟨some 12, .call (.func 22) [(.tmp 11)], none⟩,
    ⟨some 13, .call (.func 26) [(.tmp 12)], none⟩,
    ⟨some 4, .mov (.tmp 13), none⟩,
    ⟨some 14, .ext (.tmp 4) 0, none⟩,
    ⟨some 15, .ext (.tmp 4) 1, none⟩,
    ⟨some 16, .ext (.tmp 4) 2, none⟩,
    ⟨some 1, .mov (.tmp 14), none⟩,
    ⟨some 2, .mov (.tmp 15), none⟩,
    ⟨some 3, .mov (.tmp 16), none⟩])
  (.seq
   (.reg [⟨some 17, .mov (.tmp 1), none⟩,
     ⟨some 18, .bin .eql .int (.tmp 17) (.const (.int .i64 1)), none⟩,
     ⟨some 19, .mov (.tmp 18), none⟩,
     ⟨some 20, .mov (.tmp 2), some (19, true)⟩,
     ⟨some 21, .pick (.tmp 19) (.tmp 20) (.const (.bool false)), none⟩,
     ⟨some 22, .mov (.tmp 21), none⟩,
     ⟨some 23, .mov (.tmp 3), some (22, true)⟩,
     ⟨some 24, .pick (.tmp 22) (.tmp 23) (.const (.bool false)), none⟩,
     ⟨some 0, .mov (.tmp 24), none⟩])
   (.ret)))
theorem fn28 : Fun Try.prog 28 25 ac28 [.tmp 0] := ⟨mixedA, Try.f28, _, Try.func28, rfl, by decide +kernel, rfl, by kernel_rfl, by kernel_rfl⟩
/- glossator/glossatorref2.LiteralValue -/
def ac29 : AC := .seq
 (.reg [⟨some 1, .box 39 7 (.tmp 0), none⟩,
   ⟨some 2, .mov (.const (.int .i64 0)), none⟩,
   ⟨some 3, .mov (.const (.int .i64 0)), none⟩])
 (.seq
  (.block 0
   (.seq
    (.reg [⟨some 5, .faddr 0 (.tmp 1), none⟩,
      ⟨some 6, .load false 1 (.tmp 5), none⟩,
      ⟨some 7, .bin .eql .int (.tmp 6) (.const (.int .i64 27)), none⟩,
      ⟨some 8, .mov (.tmp 7), none⟩,
      ⟨some 9, .faddr 1 (.tmp 1), some (8, true)⟩,
      ⟨some 10, .load false 1 (.tmp 9), some (8, true)⟩,
      ⟨some 11, .call (.func 78) [(.tmp 10), (.const (.int .i64 0)), (.const (.int .i64 2147483647))], some (8, true)⟩,
      ⟨some 12, .pick (.tmp 8) (.tmp 11) (.const (.bool false)), none⟩,
      ⟨some 4, .mov (.tmp 12), none⟩])
    (.cond (.tmp 4)
     (.seq
      (.reg [⟨some 13, .faddr 1 (.tmp 1), none⟩,
        ⟨some 14, .load false 1 (.tmp 13), none⟩,
        ⟨some 2, .mov (.tmp 14), none⟩,
        ⟨some 3, .mov (.const (.int .i64 1)), none⟩])
      (.ret))
     (.seq
      (.reg [⟨some 16, .faddr 0 (.tmp 1), none⟩,
        ⟨some 17, .load false 1 (.tmp 16), none⟩,
        ⟨some 18, .bin .eql .int (.tmp 17) (.const (.int .i64 28)), none⟩,
        ⟨some 19, .mov (.tmp 18), none⟩,
        ⟨some 20, .faddr 1 (.tmp 1), some (19, true)⟩,
        ⟨some 21, .load false 1 (.tmp 20), some (19, true)⟩,
        ⟨some 22, .call (.func 78) [(.tmp 21), (.const (.int .i64 0)), (.const (.int .i64 1))], some (19, true)⟩,
        ⟨some 23, .pick (.tmp 19) (.tmp 22) (.const (.bool false)), none⟩,
        ⟨some 15, .mov (.tmp 23), none⟩])
      (.cond (.tmp 15)
       (.seq
        (.reg [⟨some 24, .faddr 1 (.tmp 1), none⟩,
          ⟨some 25, .load false 1 (.tmp 24), none⟩,
          ⟨some 2, .mov (.tmp 25), none⟩,
          ⟨some 3, .mov (.const (.int .i64 2)), none⟩])
        (.ret))
       (.seq
        (.reg [⟨some 27, .faddr 0 (.tmp 1), none⟩,
          ⟨some 28, .load false 1 (.tmp 27), none⟩,
          ⟨some 29, .bin .eql .int (.tmp 28) (.const (.int .i64 40)), none⟩,
          ⟨some 30, .mov (.tmp 29), none⟩,
          ⟨some 31, .faddr 2 (.tmp 1), some (30, true)⟩,
          ⟨some 32, .load false 1 (.tmp 31), some (30, true)⟩,
          ⟨some 33, .bin .eql .str (.tmp 32) (.const (.string ⟨#[45]⟩)), some (30, true)⟩,
          ⟨some 34, .pick (.tmp 30) (.tmp 33) (.const (.bool false)), none⟩,
          ⟨some 35, .mov (.tmp 34), none⟩,
          ⟨some 36, .faddr 6 (.tmp 1), some (35, true)⟩,
          ⟨some 37, .load false 1 (.tmp 36), some (35, true)⟩,
          ⟨some 38, .slen false (.tmp 37), some (35, true)⟩,
          ⟨some 39, .bin .eql .int (.tmp 38) (.const (.int .i64 1)), some (35, true)⟩,
          ⟨some 40, .pick (.tmp 35) (.tmp 39) (.const (.bool false)), none⟩,
          ⟨some 41, .mov (.tmp 40), none⟩,
          ⟨some 42, .faddr 6 (.tmp 1), some (41, true)⟩,
          ⟨some 43, .load false 1 (.tmp 42), some (41, true)⟩,
          ⟨some 44, .iaddr 7 (.tmp 43) (.const (.int .i64 0)), some (41, true)⟩,
          ⟨some 45, .faddr 0 (.tmp 44), some (41, true)⟩,
          ⟨some 46, .load false 1 (.tmp 45), some (41, true)⟩,
          ⟨some 47, .bin .eql .int (.tmp 46) (.const (.int .i64 27)), some (41, true)⟩,
          ⟨some 48, .pick (.tmp 41) (.tmp 47) (.const (.bool false)), none⟩,
          ⟨some 49, .mov (.tmp 48), none⟩,
          ⟨some 50, .faddr 6 (.tmp 1), some (49, true)⟩,
          ⟨some 51, .load false 1 (.tmp 50), some (49, true)⟩,
          ⟨some 52, .iaddr 7 (.tmp 51) (.const (.int .i64 0)), some (49, true)⟩,
          ⟨some 53, .faddr 1 (.tmp 52), some (49, true)⟩,
          ⟨some 54, .load false 1 (.tmp 53), some (49, true)⟩,
          ⟨some 55, .call (.func 78) [(.tmp 54), (.const (.int .i64 1)), (.const (.int .i64 2147483647))], some (49, true)⟩,
          ⟨some 56, .pick (.tmp 49) (.tmp 55) (.const (.bool false)), none⟩,
          ⟨some 26, .mov (.tmp 56), none⟩])
        (.cond (.tmp 26)
         (.seq
          (.reg [⟨some 57, .faddr 6 (.tmp 1), none⟩,
            ⟨some 58, .load false 1 (.tmp 57), none⟩,
            ⟨some 59, .iaddr 7 (.tmp 58) (.const (.int .i64 0)), none⟩,
            ⟨some 60, .faddr 1 (.tmp 59), none⟩,
            ⟨some 61, .load false 1 (.tmp 60), none⟩,
            ⟨some 62, .bin .sub .int (.const (.int .i64 0)) (.tmp 61), none⟩,
            ⟨some 2, .mov (.tmp 62), none⟩,
            ⟨some 3, .mov (.const (.int .i64 1)), none⟩])
          (.ret))
         (.skip))))))))
  (.seq
   (.reg [⟨some 2, .mov (.const (.int .i64 0)), none⟩,
     ⟨some 3, .mov (.const (.int .i64 0)), none⟩])
   (.ret)))
theorem fn29 : Fun Try.prog 29 63 ac29 [.tmp 2, .tmp 3] := ⟨mixedA, Try.f29, _, Try.func29, rfl, by decide +kernel, rfl, by kernel_rfl, by kernel_rfl⟩
/- glossator/glossatorref2.FoldTree -/
def ac30_l0 : AC := .seq
 (.reg [⟨some 18, .bin .lss .int (.tmp 17) (.tmp 16), none⟩])
 (.seq
  (.cond (.tmp 18)
   (.skip)
   (.exit 0))
  (.seq
   (.block 1
    (.seq
     (.reg [⟨some 19, .iaddr 7 (.tmp 15) (.tmp 17), none⟩,
       ⟨some 20, .load true 7 (.tmp 19), none⟩,
       ⟨some 5, .alloc 39 7 [(.int .i64 0), (.int .i64 0), (.string ⟨#[]⟩), (.int .i64 0), (.int .i64 0), (.int .i64 0), (.slice none 0 0)], none⟩,
       ⟨none, .store 7 (.tmp 5) (.tmp 20), none⟩])
     (.reg [⟨some 21, .mov (.tmp 3), none⟩,
       ⟨some 22, .load true 7 (.tmp 5), none⟩,
       ⟨some 23, .call (.func 30) [(.tmp 22)], none⟩,
       ⟨some 24, .bslice 39 7 [(.int .i64 0), (.int .i64 0), (.string ⟨#[]⟩), (.int .i64 0), (.int .i64 0), (.int .i64 0), (.slice none 0 0)] 1 [(0, (.tmp 23))], none⟩,
       ⟨some 25, .app 39 7 (.tmp 21) (.tmp 24), none⟩,
       ⟨some 3, .mov (.tmp 25), none⟩])))
   (.reg [⟨some 26, .bin .add .int (.tmp 17) (.const (.int .i64 1)), none⟩,
     ⟨some 17, .mov (.tmp 26), none⟩])))
def ac30 : AC := .seq
 (.reg [⟨some 1, .box 39 7 (.tmp 0), none⟩,
   ⟨some 2, .alloc 39 7 [(.int .i64 0), (.int .i64 0), (.string ⟨#[]⟩), (.int .i64 0), (.int .i64 0), (.int .i64 0), (.slice none 0 0)], none⟩])
 (.seq
  (.reg [⟨some 3, .mov (.const (.slice none 0 0)), none⟩])
  (.seq
   (.seq
    (.reg [⟨some 14, .faddr 6 (.tmp 1), none⟩,
      ⟨some 15, .load false 1 (.tmp 14), none⟩,
      ⟨some 16, .slen false (.tmp 15), none⟩,
      ⟨some 17, .mov (.const (.int .i64 0)), none⟩])
    (.block 0
     (.loop ac30_l0)))
   (.seq
    (.reg [⟨some 27, .mov (.tmp 3), none⟩,
      ⟨some 28, .faddr 6 (.tmp 1), none⟩,
      ⟨none, .store 1 (.tmp 28) (.tmp 27), none⟩])
    (.seq
     (.seq
      (.reg [⟨some 29, .faddr 0 (.tmp 1), none⟩,
        ⟨some 30, .load false 1 (.tmp 29), none⟩,
        ⟨some 31, .bin .eql .int (.tmp 30) (.const (.int .i64 40)), none⟩,
        ⟨some 32, .mov (.tmp 31), none⟩,
        ⟨some 33, .mov (.tmp 3), some (32, true)⟩,
        ⟨some 34, .slen false (.tmp 33), some (32, true)⟩,
        ⟨some 35, .bin .eql .int (.tmp 34) (.const (.int .i64 1)), some (32, true)⟩,
        ⟨some 36, .pick (.tmp 32) (.tmp 35) (.const (.bool false)), none⟩])
      (.cond (.tmp 36)
       (.seq
        (.reg [⟨some 38, .mov (.tmp 3), none⟩,
          ⟨some 39, .iaddr 7 (.tmp 38) (.const (.int .i64 0)), none⟩,
          ⟨some 40, .load true 7 (.tmp 39), none⟩,
          ⟨some 41, .call (.func 29) [(.tmp 40)], none⟩,
          ⟨some 37, .mov (.tmp 41), none⟩,
          ⟨some 42, .ext (.tmp 37) 0, none⟩,
          ⟨some 43, .ext (.tmp 37) 1, none⟩,
          ⟨some 6, .mov (.tmp 42), none⟩,
          ⟨some 7, .mov (.tmp 43), none⟩])
        (.seq
         (.seq
          (.reg [⟨some 44, .faddr 2 (.tmp 1), none⟩,
            ⟨some 45, .load false 1 (.tmp 44), none⟩,
            ⟨some 46, .bin .eql .str (.tmp 45) (.const (.string ⟨#[33]⟩)), none⟩,
            ⟨some 47, .mov (.tmp 46), none⟩,
            ⟨some 48, .mov (.tmp 7), some (47, true)⟩,
            ⟨some 49, .bin .eql .int (.tmp 48) (.const (.int .i64 2)), some (47, true)⟩,
            ⟨some 50, .pick (.tmp 47) (.tmp 49) (.const (.bool false)), none⟩])
          (.cond (.tmp 50)
           (.seq
            (.reg [⟨some 51, .load true 7 (.tmp 1), none⟩,
              ⟨some 52, .mov (.tmp 6), none⟩,
              ⟨some 53, .bin .sub .int (.const (.int .i64 1)) (.tmp 52), none⟩,
              ⟨some 54, .call (.func 79) [(.tmp 51), (.tmp 53), (.const (.int .i64 2))], none⟩,
              ⟨none, .store 7 (.tmp 2) (.tmp 54), none⟩])
            (.ret))
           (.skip)))
         (.seq
          (.reg [⟨some 55, .faddr 2 (.tmp 1), none⟩,
            ⟨some 56, .load false 1 (.tmp 55), none⟩,
            ⟨some 57, .bin .eql .str (.tmp 56) (.const (.string ⟨#[45]⟩)), none⟩,
            ⟨some 58, .mov (.tmp 57), none⟩,
            ⟨some 59, .mov (.tmp 7), some (58, true)⟩,
            ⟨some 60, .bin .eql .int (.tmp 59) (.const (.int .i64 1)), some (58, true)⟩,
            ⟨some 61, .pick (.tmp 58) (.tmp 60) (.const (.bool false)), none⟩,
            ⟨some 62, .mov (.tmp 61), none⟩,
            ⟨some 63, .mov (.tmp 6), some (62, true)⟩,
            ⟨some 64, .bin .lss .int (.tmp 63) (.const (.int .i64 1)), some (62, true)⟩,
            ⟨some 65, .pick (.tmp 62) (.tmp 64) (.const (.bool false)), none⟩])
          (.cond (.tmp 65)
           (.seq
            (.reg [⟨some 66, .load true 7 (.tmp 1), none⟩,
              ⟨some 67, .mov (.tmp 6), none⟩,
              ⟨some 68, .bin .sub .int (.const (.int .i64 0)) (.tmp 67), none⟩,
              ⟨some 69, .call (.func 79) [(.tmp 66), (.tmp 68), (.const (.int .i64 1))], none⟩,
              ⟨none, .store 7 (.tmp 2) (.tmp 69), none⟩])
            (.ret))
           (.skip)))))
       (.skip)))
     (.seq
      (.seq
       (.reg [⟨some 70, .faddr 0 (.tmp 1), none⟩,
         ⟨some 71, .load false 1 (.tmp 70), none⟩,
         ⟨some 72, .bin .neq .int (.tmp 71) (.const (.int .i64 39)), none⟩,
         ⟨some 73, .mov (.tmp 72), none⟩,
         ⟨some 74, .mov (.tmp 3), some (73, false)⟩,
         ⟨some 75, .slen false (.tmp 74), some (73, false)⟩,
         ⟨some 76, .bin .neq .int (.tmp 75) (.const (.int .i64 2)), some (73, false)⟩,
         ⟨some 77, .pick (.tmp 73) (.const (.bool true)) (.tmp 76), none⟩])
       (.cond (.tmp 77)
        (.seq
         (.reg [⟨some 78, .load true 7 (.tmp 1), none⟩,
           ⟨none, .store 7 (.tmp 2) (.tmp 78), none⟩])
         (.ret))
        (.skip)))
      (.seq
       (.reg [⟨some 80, .mov (.tmp 3), none⟩,
         ⟨some 81, .iaddr 7 (.tmp 80) (.const (.int .i64 0)), none⟩,
         ⟨some 82, .load true 7 (.tmp 81), none⟩,
         ⟨some 83, .call (.func 29) [(.tmp 82)], none⟩,
         ⟨some 79, .mov (.tmp 83), none⟩,
         ⟨some 84, .ext (.tmp 79) 0, none⟩,
         ⟨some 85, .ext (.tmp 79) 1, none⟩,
         ⟨some 8, .mov (.tmp 84), none⟩,
         ⟨some 9, .mov (.tmp 85), none⟩])
       (.seq
        (.reg [⟨some 87, .mov (.tmp 3), none⟩,
          ⟨some 88, .iaddr 7 (.tmp 87) (.const (.int .i64 1)), none⟩,
          ⟨some 89, .load true 7 (.tmp 88), none⟩,
          ⟨some 90, .call (.func 29) [(.tmp 89)], none⟩,
          ⟨some 86, .mov (.tmp 90), none⟩,
          ⟨some 91, .ext (.tmp 86) 0, none⟩,
          ⟨some 92, .ext (.tmp 86) 1, none⟩,
          ⟨some 10, .mov (.tmp 91), none⟩,
          ⟨some 11, .mov (.tmp 92), none⟩])
        (.seq
         (.block 2
          (.seq
           (.seq
            (.reg [⟨some 94, .faddr 2 (.tmp 1), none⟩,
              ⟨some 95, .load false 1 (.tmp 94), none⟩,
              ⟨some 96, .bin .eql .str (.tmp 95) (.const (.string ⟨#[38, 38]⟩)), none⟩,
              ⟨some 97, .mov (.tmp 96), none⟩,
              ⟨some 98, .mov (.tmp 9), some (97, true)⟩,
              ⟨some 99, .bin .eql .int (.tmp 98) (.const (.int .i64 2)), some (97, true)⟩,
              ⟨some 100, .pick (.tmp 97) (.tmp 99) (.const (.bool false)), none⟩,
              ⟨some 101, .mov (.tmp 100), none⟩,
              ⟨some 102, .mov (.tmp 8), some (101, true)⟩,
              ⟨some 103, .bin .eql .int (.tmp 102) (.const (.int .i64 1)), some (101, true)⟩,
              ⟨some 104, .pick (.tmp 101) (.tmp 103) (.const (.bool false)), none⟩,
              ⟨some 93, .mov (.tmp 104), none⟩])
            (.cond (.tmp 93)
             (.skip)
             (.reg [⟨some 105, .faddr 2 (.tmp 1), none⟩,
               ⟨some 106, .load false 1 (.tmp 105), none⟩,
               ⟨some 107, .bin .eql .str (.tmp 106) (.const (.string ⟨#[124, 124]⟩)), none⟩,
               ⟨some 108, .mov (.tmp 107), none⟩,
               ⟨some 109, .mov (.tmp 9), some (108, true)⟩,
               ⟨some 110, .bin .eql .int (.tmp 109) (.const (.int .i64 2)), some (108, true)⟩,
               ⟨some 111, .pick (.tmp 108) (.tmp 110) (.const (.bool false)), none⟩,
               ⟨some 112, .mov (.tmp 111), none⟩,
               ⟨some 113, .mov (.tmp 8), some (112, true)⟩,
               ⟨some 114, .bin .eql .int (.tmp 113) (.const (.int .i64 0)), some (112, true)⟩,
               ⟨some 115, .pick (.tmp 112) (.tmp 114) (.const (.bool false)), none⟩,
               ⟨some 93, .mov (.tmp 115), none⟩])))
           (.cond (.tmp 93)
            (.seq
             (.reg [⟨some 116, .mov (.tmp 3), none⟩,
               ⟨some 117, .iaddr 7 (.tmp 116) (.const (.int .i64 1)), none⟩,
               ⟨some 118, .load true 7 (.tmp 117), none⟩,
               ⟨none, .store 7 (.tmp 2) (.tmp 118), none⟩])
             (.ret))
            (.seq
             (.seq
              (.reg [⟨some 120, .faddr 2 (.tmp 1), none⟩,
                ⟨some 121, .load false 1 (.tmp 120), none⟩,
                ⟨some 122, .bin .eql .str (.tmp 121) (.const (.string ⟨#[38, 38]⟩)), none⟩,
                ⟨some 123, .mov (.tmp 122), none⟩,
                ⟨some 124, .mov (.tmp 9), some (123, true)⟩,
                ⟨some 125, .bin .eql .int (.tmp 124) (.const (.int .i64 2)), some (123, true)⟩,
                ⟨some 126, .pick (.tmp 123) (.tmp 125) (.const (.bool false)), none⟩,
                ⟨some 119, .mov (.tmp 126), none⟩])
              (.cond (.tmp 119)
               (.skip)
               (.reg [⟨some 127, .faddr 2 (.tmp 1), none⟩,
                 ⟨some 128, .load false 1 (.tmp 127), none⟩,
                 ⟨some 129, .bin .eql .str (.tmp 128) (.const (.string ⟨#[124, 124]⟩)), none⟩,
                 ⟨some 130, .mov (.tmp 129), none⟩,
                 ⟨some 131, .mov (.tmp 9), some (130, true)⟩,
                 ⟨some 132, .bin .eql .int (.tmp 131) (.const (.int .i64 2)), some (130, true)⟩,
                 ⟨some 133, .pick (.tmp 130) (.tmp 132) (.const (.bool false)), none⟩,
                 ⟨some 119, .mov (.tmp 133), none⟩])))
             (.cond (.tmp 119)
              (.seq
               (.reg [⟨some 134, .load true 7 (.tmp 1), none⟩,
                 ⟨some 135, .mov (.tmp 8), none⟩,
                 ⟨some 136, .call (.func 79) [(.tmp 134), (.tmp 135), (.const (.int .i64 2))], none⟩,
                 ⟨none, .store 7 (.tmp 2) (.tmp 136), none⟩])
               (.ret))
              (.seq
               (.reg [⟨some 138, .mov (.tmp 9), none⟩,
                 ⟨some 139, .bin .eql .int (.tmp 138) (.const (.int .i64 0)), none⟩,
                 ⟨some 140, .mov (.tmp 139), none⟩,
                 ⟨some 141, .mov (.tmp 9), some (140, false)⟩,
                 ⟨some 142, .mov (.tmp 11), some (140, false)⟩,
                 ⟨some 143, .bin .neq .int (.tmp 141) (.tmp 142), some (140, false)⟩,
                 ⟨some 144, .pick (.tmp 140) (.const (.bool true)) (.tmp 143), none⟩,
                 ⟨some 137, .mov (.tmp 144), none⟩])
               (.cond (.tmp 137)
                (.seq
                 (.reg [⟨some 145, .load true 7 (.tmp 1), none⟩,
                   ⟨none, .store 7 (.tmp 2) (.tmp 145), none⟩])
                 (.ret))
                (.seq
                 (.reg [⟨some 147, .faddr 2 (.tmp 1), none⟩,
                   ⟨some 148, .load false 1 (.tmp 147), none⟩,
                   ⟨some 149, .bin .eql .str (.tmp 148) (.const (.string ⟨#[61, 61]⟩)), none⟩,
                   ⟨some 146, .mov (.tmp 149), none⟩])
                 (.cond (.tmp 146)
                  (.seq
                   (.dreg [⟨some 150, .load true 7 (.tmp 1), none⟩,
                     ⟨some 151, .mov (.tmp 8), none⟩,
                     ⟨some 152, .mov (.tmp 10), none⟩,
                     ⟨some 153, .bin .eql .int (.tmp 151) (.tmp 152), none⟩,
                     ⟨some 154, .call (.func 80) [(.tmp 153)], none⟩,
                     ⟨some 155, .call (.func 79) [(.tmp 150), (.tmp 154), (.const (.int .i64 2))], none⟩,
                     ⟨none, .store 7 (.tmp 2) (.tmp 155), none⟩]
                     [[], [], [], [1, 2], [3], [0, 4, 4], [5, 5, 0, 1, 2, 3, 4, 5]]
                     [[1], [8], [10], [151, 152], [153], [150, 154], [2, 155]])
                   (.ret))
                  (.seq
                   (.reg [⟨some 157, .mov (.tmp 9), none⟩,
                     ⟨some 158, .bin .eql .int (.tmp 157) (.const (.int .i64 2)), none⟩,
                     ⟨some 156, .mov (.tmp 158), none⟩])
                   (.cond (.tmp 156)
                    (.seq
                     (.reg [⟨some 159, .load true 7 (.tmp 1), none⟩,
                       ⟨none, .store 7 (.tmp 2) (.tmp 159), none⟩])
                     (.ret))
                    (.seq
                     (.reg [⟨some 161, .faddr 2 (.tmp 1), none⟩,
                       ⟨some 162, .load false 1 (.tmp 161), none⟩,
                       ⟨some 163, .bin .eql .str (.tmp 162) (.const (.string ⟨#[60]⟩)), none⟩,
                       ⟨some 160, .mov (.tmp 163), none⟩])
                     (.cond (.tmp 160)
                      (.seq
                       (.dreg [⟨some 164, .load true 7 (.tmp 1), none⟩,
                         ⟨some 165, .mov (.tmp 8), none⟩,
                         ⟨some 166, .mov (.tmp 10), none⟩,
                         ⟨some 167, .bin .lss .int (.tmp 165) (.tmp 166), none⟩,
                         ⟨some 168, .call (.func 80) [(.tmp 167)], none⟩,
                         ⟨some 169, .call (.func 79) [(.tmp 164), (.tmp 168), (.const (.int .i64 2))], none⟩,
                         ⟨none, .store 7 (.tmp 2) (.tmp 169), none⟩]
                         [[], [], [], [1, 2], [3], [0, 4, 4], [5, 5, 0, 1, 2, 3, 4, 5]]
                         [[1], [8], [10], [165, 166], [167], [164, 168], [2, 169]])
                       (.ret))
                      (.seq
                       (.reg [⟨some 171, .faddr 2 (.tmp 1), none⟩,
                         ⟨some 172, .load false 1 (.tmp 171), none⟩,
                         ⟨some 173, .bin .eql .str (.tmp 172) (.const (.string ⟨#[47]⟩)), none⟩,
                         ⟨some 174, .mov (.tmp 173), none⟩,
                         ⟨some 175, .mov (.tmp 10), some (174, true)⟩,
                         ⟨some 176, .bin .eql .int (.tmp 175) (.const (.int .i64 0)), some (174, true)⟩,
                         ⟨some 177, .pick (.tmp 174) (.tmp 176) (.const (.bool false)), none⟩,
                         ⟨some 170, .mov (.tmp 177), none⟩])
                       (.cond (.tmp 170)
                        (.seq
                         (.reg [⟨some 178, .load true 7 (.tmp 1), none⟩,
                           ⟨none, .store 7 (.tmp 2) (.tmp 178), none⟩])
                         (.ret))
                        (.skip))))))))))))))))
         (.seq
          (.reg [⟨some 12, .mov (.const (.int .i64 0)), none⟩,
            ⟨some 13, .mov (.const (.bool true)), none⟩])
          (.seq
           (.seq
            (.reg [⟨some 179, .faddr 2 (.tmp 1), none⟩,
              ⟨some 180, .load false 1 (.tmp 179), none⟩])
            (.block 3
             (.seq
              (.reg [⟨some 182, .bin .eql .str (.tmp 180) (.const (.string ⟨#[43]⟩)), none⟩,
                ⟨some 181, .mov (.tmp 182), none⟩])
              (.cond (.tmp 181)
               (.reg [⟨some 183, .mov (.tmp 8), none⟩,
                 ⟨some 184, .mov (.tmp 10), none⟩,
                 ⟨some 185, .bin .add .int (.tmp 183) (.tmp 184), none⟩,
                 ⟨some 12, .mov (.tmp 185), none⟩])
               (.seq
                (.reg [⟨some 187, .bin .eql .str (.tmp 180) (.const (.string ⟨#[45]⟩)), none⟩,
                  ⟨some 186, .mov (.tmp 187), none⟩])
                (.cond (.tmp 186)
                 (.reg [⟨some 188, .mov (.tmp 8), none⟩,
                   ⟨some 189, .mov (.tmp 10), none⟩,
                   ⟨some 190, .bin .sub .int (.tmp 188) (.tmp 189), none⟩,
                   ⟨some 12, .mov (.tmp 190), none⟩])
                 (.seq
                  (.reg [⟨some 192, .bin .eql .str (.tmp 180) (.const (.string ⟨#[42]⟩)), none⟩,
                    ⟨some 191, .mov (.tmp 192), none⟩])
                  (.cond (.tmp 191)
                   (.reg [⟨some 193, .mov (.tmp 8), none⟩,
                     ⟨some 194, .mov (.tmp 10), none⟩,
                     ⟨some 195, .bin .mul .int (.tmp 193) (.tmp 194), none⟩,
                     ⟨some 12, .mov (.tmp 195), none⟩])
                   (.seq
                    (.reg [⟨some 197, .bin .eql .str (.tmp 180) (.const (.string ⟨#[47]⟩)), none⟩,
                      ⟨some 196, .mov (.tmp 197), none⟩])
                    (.cond (.tmp 196)
                     (.reg [⟨some 198, .mov (.tmp 8), none⟩,
                       ⟨some 199, .mov (.tmp 10), none⟩,
                       ⟨some 200, .bin .quo .int (.tmp 198) (.tmp 199), none⟩,
                       ⟨some 12, .mov (.tmp 200), none⟩])
                     (.reg [⟨some 13, .mov (.const (.bool false)), none⟩])))))))))))
           (.seq
            (.seq
             (.reg [⟨some 201, .mov (.tmp 13), none⟩,
               ⟨some 202, .mov (.tmp 201), none⟩,
               ⟨some 203, .mov (.tmp 12), some (202, true)⟩,
               ⟨some 204, .call (.func 78) [(.tmp 203), (.const (.int .i64 (-2147483647))), (.const (.int .i64 2147483647))], some (202, true)⟩,
               ⟨some 205, .pick (.tmp 202) (.tmp 204) (.const (.bool false)), none⟩])
             (.cond (.tmp 205)
              (.seq
               (.reg [⟨some 206, .load true 7 (.tmp 1), none⟩,
                 ⟨some 207, .mov (.tmp 12), none⟩,
                 ⟨some 208, .call (.func 79) [(.tmp 206), (.tmp 207), (.const (.int .i64 1))], none⟩,
                 ⟨none, .store 7 (.tmp 2) (.tmp 208), none⟩])
               (.ret))
              (.skip)))
            (.seq
             (.reg [⟨some 209, .load true 7 (.tmp 1), none⟩,
               ⟨none, .store 7 (.tmp 2) (.tmp 209), none⟩])
             (.ret)))))))))))))
theorem fn30 : Fun Try.prog 30 210 ac30 [.cell 2 7 true] := ⟨mixedA, Try.f30, _, Try.func30, rfl, by decide +kernel, rfl, by kernel_rfl, by kernel_rfl⟩
/- glossator/constfold.foldBinary -/
def ac74 : AC := .seq
 (.reg [⟨some 1, .box 39 7 (.tmp 0), none⟩,
   ⟨some 2, .alloc 39 7 [(.int .i64 0), (.int .i64 0), (.string ⟨#[]⟩), (.int .i64 0), (.int .i64 0), (.int .i64 0), (.slice none 0 0)], none⟩])
 (.seq
  (.reg [⟨some 11, .faddr 6 (.tmp 1), none⟩,
    ⟨some 12, .load false 1 (.tmp 11), none⟩,
    ⟨some 13, .iaddr 7 (.tmp 12) (.const (.int .i64 0)), none⟩,
    ⟨some 14, .load true 7 (.tmp 13), none⟩,
    ⟨some 15, .call (.func 26) [(.tmp 14)], none⟩,
    ⟨some 10, .mov (.tmp 15), none⟩,
    ⟨some 16, .ext (.tmp 10) 0, none⟩,
    ⟨some 17, .ext (.tmp 10) 1, none⟩,
    ⟨some 18, .ext (.tmp 10) 2, none⟩,
    ⟨some 3, .mov (.tmp 16), none⟩,
    ⟨some 4, .mov (.tmp 17), none⟩,
    ⟨some 5, .mov (.tmp 18), none⟩])
  (.seq
   (.seq
    (.reg [⟨some 19, .mov (.tmp 5), none⟩,
      ⟨some 20, .un .not (.tmp 19), none⟩])
    (.cond (.tmp 20)
     (.seq
      (.reg [⟨some 21, .load true 7 (.tmp 1), none⟩,
        ⟨none, .store 7 (.tmp 2) (.tmp 21), none⟩])
      (.ret))
     (.skip)))
   (.seq
    (.seq
     (.reg [⟨some 22, .mov (.tmp 4), none⟩,
       ⟨some 23, .mov (.tmp 22), none⟩,
       ⟨some 24, .faddr 2 (.tmp 1), some (23, true)⟩,
       ⟨some 25, .load false 1 (.tmp 24), some (23, true)⟩,
       ⟨some 26, .bin .eql .str (.tmp 25) (.const (.string ⟨#[38, 38]⟩)), some (23, true)⟩,
       ⟨some 27, .mov (.tmp 26), some (23, true)⟩,
       ⟨some 28, .faddr 2 (.tmp 1), some (27, false)⟩,
       ⟨some 29, .load false 1 (.tmp 28), some (27, false)⟩,
       ⟨some 30, .bin .eql .str (.tmp 29) (.const (.string ⟨#[124, 124]⟩)), some (27, false)⟩,
       ⟨some 31, .pick (.tmp 27) (.const (.bool true)) (.tmp 30), some (23, true)⟩,
       ⟨some 32, .pick (.tmp 23) (.tmp 31) (.const (.bool false)), none⟩])
     (.cond (.tmp 32)
      (.seq
       (.seq
        (.reg [⟨some 33, .faddr 2 (.tmp 1), none⟩,
          ⟨some 34, .load false 1 (.tmp 33), none⟩,
          ⟨some 35, .bin .eql .str (.tmp 34) (.const (.string ⟨#[38, 38]⟩)), none⟩,
          ⟨some 36, .mov (.tmp 3), none⟩,
          ⟨some 37, .bin .eql .int (.tmp 36) (.const (.int .i64 1)), none⟩,
          ⟨some 38, .bin .eql .bool (.tmp 35) (.tmp 37), none⟩])
        (.cond (.tmp 38)
         (.seq
          (.reg [⟨some 39, .faddr 6 (.tmp 1), none⟩,
            ⟨some 40, .load false 1 (.tmp 39), none⟩,
            ⟨some 41, .iaddr 7 (.tmp 40) (.const (.int .i64 1)), none⟩,
            ⟨some 42, .load true 7 (.tmp 41), none⟩,
            ⟨none, .store 7 (.tmp 2) (.tmp 42), none⟩])
          (.ret))
         (.skip)))
       (.seq
        (.reg [⟨some 43, .load true 7 (.tmp 1), none⟩,
          ⟨some 44, .mov (.tmp 3), none⟩,
          ⟨some 45, .bin .eql .int (.tmp 44) (.const (.int .i64 1)), none⟩,
          ⟨some 46, .call (.func 107) [(.tmp 43), (.tmp 45)], none⟩,
          ⟨none, .store 7 (.tmp 2) (.tmp 46), none⟩])
        (.ret)))
      (.skip)))
    (.seq
     (.reg [⟨some 48, .faddr 6 (.tmp 1), none⟩,
       ⟨some 49, .load false 1 (.tmp 48), none⟩,
       ⟨some 50, .iaddr 7 (.tmp 49) (.const (.int .i64 1)), none⟩,
       ⟨some 51, .load true 7 (.tmp 50), none⟩,
       ⟨some 52, .call (.func 26) [(.tmp 51)], none⟩,
       ⟨some 47, .mov (.tmp 52), none⟩,
       ⟨some 53, .ext (.tmp 47) 0, none⟩,
       ⟨some 54, .ext (.tmp 47) 1, none⟩,
       ⟨some 55, .ext (.tmp 47) 2, none⟩,
       ⟨some 6, .mov (.tmp 53), none⟩,
       ⟨some 7, .mov (.tmp 54), none⟩,
       ⟨some 5, .mov (.tmp 55), none⟩])
     (.seq
      (.seq
       (.reg [⟨some 56, .mov (.tmp 5), none⟩,
         ⟨some 57, .un .not (.tmp 56), none⟩,
         ⟨some 58, .mov (.tmp 57), none⟩,
         ⟨some 59, .mov (.tmp 4), some (58, false)⟩,
         ⟨some 60, .mov (.tmp 7), some (58, false)⟩,
         ⟨some 61, .bin .neq .bool (.tmp 59) (.tmp 60), some (58, false)⟩,
         ⟨some 62, .pick (.tmp 58) (.const (.bool true)) (.tmp 61), none⟩])
       (.cond (.tmp 62)
        (.seq
         (.reg [⟨some 63, .load true 7 (.tmp 1), none⟩,
           ⟨none, .store 7 (.tmp 2) (.tmp 63), none⟩])
         (.ret))
        (.skip)))
      (.seq
       (.block 0
        (.seq
         (.reg [⟨some 65, .faddr 2 (.tmp 1), none⟩,
           ⟨some 66, .load false 1 (.tmp 65), none⟩,
           ⟨some 67, .bin .eql .str (.tmp 66) (.const (.string ⟨#[61, 61]⟩)), none⟩,
           ⟨some 64, .mov (.tmp 67), none⟩])
         (.cond (.tmp 64)
          (.seq
           (.reg [⟨some 68, .load true 7 (.tmp 1), none⟩,
             ⟨some 69, .mov (.tmp 3), none⟩,
             ⟨some 70, .mov (.tmp 6), none⟩,
             ⟨some 71, .bin .eql .int (.tmp 69) (.tmp 70), none⟩,
             ⟨some 72, .call (.func 107) [(.tmp 68), (.tmp 71)], none⟩,
             ⟨none, .store 7 (.tmp 2) (.tmp 72), none⟩])
           (.ret))
          (.seq
           (.reg [⟨some 74, .mov (.tmp 4), none⟩,
             ⟨some 73, .mov (.tmp 74), none⟩])
           (.cond (.tmp 73)
            (.seq
             (.reg [⟨some 75, .load true 7 (.tmp 1), none⟩,
               ⟨none, .store 7 (.tmp 2) (.tmp 75), none⟩])
             (.ret))
            (.seq
             (.reg [⟨some 77, .faddr 2 (.tmp 1), none⟩,
               ⟨some 78, .load false 1 (.tmp 77), none⟩,
               ⟨some 79, .bin .eql .str (.tmp 78) (.const (.string ⟨#[60]⟩)), none⟩,
               ⟨some 76, .mov (.tmp 79), none⟩])
             (.cond (.tmp 76)
              (.seq
               (.reg [⟨some 80, .load true 7 (.tmp 1), none⟩,
                 ⟨some 81, .mov (.tmp 3), none⟩,
                 ⟨some 82, .mov (.tmp 6), none⟩,
                 ⟨some 83, .bin .lss .int (.tmp 81) (.tmp 82), none⟩,
                 ⟨some 84, .call (.func 107) [(.tmp 80), (.tmp 83)], none⟩,
                 ⟨none, .store 7 (.tmp 2) (.tmp 84), none⟩])
               (.ret))
              (.skip))))))))
       (.seq
        (.seq
         (.reg [⟨some 86, .faddr 2 (.tmp 1), none⟩,
           ⟨some 87, .load false 1 (.tmp 86), none⟩,
           ⟨some 88, .mov (.tmp 3), none⟩,
           ⟨some 89, .mov (.tmp 6), none⟩,
           ⟨some 90, .call (.func 108) [(.tmp 87), (.tmp 88), (.tmp 89)], none⟩,
           ⟨some 85, .mov (.tmp 90), none⟩,
           ⟨some 91, .ext (.tmp 85) 0, none⟩,
           ⟨some 92, .ext (.tmp 85) 1, none⟩,
           ⟨some 8, .mov (.tmp 91), none⟩,
           ⟨some 9, .mov (.tmp 92), none⟩])
         (.seq
          (.reg [⟨some 93, .mov (.tmp 9), none⟩])
          (.cond (.tmp 93)
           (.seq
            (.reg [⟨some 94, .load true 7 (.tmp 1), none⟩,
              ⟨some 95, .mov (.tmp 8), none⟩,
              ⟨some 96, .call (.func 109) [(.tmp 94), (.tmp 95)], none⟩,
              ⟨none, .store 7 (.tmp 2) (.tmp 96), none⟩])
            (.ret))
           (.skip))))
        (.seq
         (.reg [⟨some 97, .load true 7 (.tmp 1), none⟩,
           ⟨none, .store 7 (.tmp 2) (.tmp 97), none⟩])
         (.ret)))))))))
theorem fn74 : Fun Try.prog 74 98 ac74 [.cell 2 7 true] := ⟨mixedA, Try.f74, _, Try.func74, rfl, by decide +kernel, rfl, by kernel_rfl, by kernel_rfl⟩
/- glossator/constfold.foldUnary -/
def ac75 : AC := .seq
 (.reg [⟨some 1, .box 39 7 (.tmp 0), none⟩,
   ⟨some 2, .alloc 39 7 [(.int .i64 0), (.int .i64 0), (.string ⟨#[]⟩), (.int .i64 0), (.int .i64 0), (.int .i64 0), (.slice none 0 0)], none⟩])
 (.seq
  (.reg [⟨some 7, .faddr 6 (.tmp 1), none⟩,
    ⟨some 8, .load false 1 (.tmp 7), none⟩,
    ⟨some 9, .iaddr 7 (.tmp 8) (.const (.int .i64 0)), none⟩,
    ⟨some 10, .load true 7 (.tmp 9), none⟩,
    ⟨some 11, .call (.func 26) [(.tmp 10)], none⟩,
    ⟨some 6, .mov (.tmp 11), none⟩,
    ⟨some 12, .ext (.tmp 6) 0, none⟩,
    ⟨some 13, .ext (.tmp 6) 1, none⟩,
    ⟨some 14, .ext (.tmp 6) 2, none⟩,
    ⟨some 3, .mov (.tmp 12), none⟩,
    ⟨some 4, .mov (.tmp 13), none⟩,
    ⟨some 5, .mov (.tmp 14), none⟩])
  (.seq
   (.block 0
    (.seq
     (.reg [⟨some 16, .mov (.tmp 5), none⟩,
       ⟨some 17, .un .not (.tmp 16), none⟩,
       ⟨some 15, .mov (.tmp 17), none⟩])
     (.cond (.tmp 15)
      (.skip)
      (.seq
       (.reg [⟨some 19, .faddr 2 (.tmp 1), none⟩,
         ⟨some 20, .load false 1 (.tmp 19), none⟩,
         ⟨some 21, .bin .eql .str (.tmp 20) (.const (.string ⟨#[33]⟩)), none⟩,
         ⟨some 22, .mov (.tmp 21), none⟩,
         ⟨some 23, .mov (.tmp 4), some (22, true)⟩,
         ⟨some 24, .pick (.tmp 22) (.tmp 23) (.const (.bool false)), none⟩,
         ⟨some 18, .mov (.tmp 24), none⟩])
       (.cond (.tmp 18)
        (.seq
         (.reg [⟨some 25, .load true 7 (.tmp 1), none⟩,
           ⟨some 26, .mov (.tmp 3), none⟩,
           ⟨some 27, .bin .eql .int (.tmp 26) (.const (.int .i64 0)), none⟩,
           ⟨some 28, .call (.func 107) [(.tmp 25), (.tmp 27)], none⟩,
           ⟨none, .store 7 (.tmp 2) (.tmp 28), none⟩])
         (.ret))
        (.seq
         (.reg [⟨some 30, .faddr 2 (.tmp 1), none⟩,
           ⟨some 31, .load false 1 (.tmp 30), none⟩,
           ⟨some 32, .bin .eql .str (.tmp 31) (.const (.string ⟨#[45]⟩)), none⟩,
           ⟨some 33, .mov (.tmp 32), none⟩,
           ⟨some 34, .mov (.tmp 4), some (33, true)⟩,
           ⟨some 35, .un .not (.tmp 34), some (33, true)⟩,
           ⟨some 36, .pick (.tmp 33) (.tmp 35) (.const (.bool false)), none⟩,
           ⟨some 37, .mov (.tmp 36), none⟩,
           ⟨some 38, .mov (.tmp 3), some (37, true)⟩,
           ⟨some 39, .bin .leq .int (.tmp 38) (.const (.int .i64 0)), some (37, true)⟩,
           ⟨some 40, .pick (.tmp 37) (.tmp 39) (.const (.bool false)), none⟩,
           ⟨some 29, .mov (.tmp 40), none⟩])
         (.cond (.tmp 29)
          (.seq
           (.reg [⟨some 41, .load true 7 (.tmp 1), none⟩,
             ⟨some 42, .mov (.tmp 3), none⟩,
             ⟨some 43, .un .neg (.tmp 42), none⟩,
             ⟨some 44, .call (.func 109) [(.tmp 41), (.tmp 43)], none⟩,
             ⟨none, .store 7 (.tmp 2) (.tmp 44), none⟩])
           (.ret))
          (.skip))))))))
   (.seq
    (.reg [⟨some 45, .load true 7 (.tmp 1), none⟩,
      ⟨none, .store 7 (.tmp 2) (.tmp 45), none⟩])
    (.ret))))
theorem fn75 : Fun Try.prog 75 46 ac75 [.cell 2 7 true] := ⟨mixedA, Try.f75, _, Try.func75, rfl, by decide +kernel, rfl, by kernel_rfl, by kernel_rfl⟩
/- glossator/glossatorlaw2.binaryNode -/
def ac76 : AC := .seq
 (.reg [⟨some 4, .box 39 7 (.tmp 1), none⟩,
   ⟨some 5, .box 39 7 (.tmp 2), none⟩,
   ⟨some 6, .alloc 39 7 [(.int .i64 0), (.int .i64 0), (.string ⟨#[]⟩), (.int .i64 0), (.int .i64 0), (.int .i64 0), (.slice none 0 0)], none⟩])
 (.seq
  (.reg [⟨some 7, .mov (.tmp 0), none⟩,
    ⟨some 8, .load true 7 (.tmp 4), none⟩,
    ⟨some 9, .load true 7 (.tmp 5), none⟩,
    ⟨some 10, .bslice 39 7 [(.int .i64 0), (.int .i64 0), (.string ⟨#[]⟩), (.int .i64 0), (.int .i64 0), (.int .i64 0), (.slice none 0 0)] 2 [(0, (.tmp 8)), (1, (.tmp 9))], none⟩,
    ⟨some 11, .build [(.int .i64 0), (.int .i64 0), (.string ⟨#[]⟩), (.int .i64 0), (.int .i64 0), (.int .i64 0), (.slice none 0 0)] [(0, 1), (1, 1), (2, 1), (3, 1), (4, 1), (5, 1), (6, 1)] [(0, (.const (.int .i64 39))), (2, (.tmp 7)), (5, (.const (.int .i64 (-1)))), (6, (.tmp 10))], none⟩,
    ⟨none, .store 7 (.tmp 6) (.tmp 11), none⟩])
  (.ret))
theorem fn76 : Fun Try.prog 76 12 ac76 [.cell 6 7 true] := ⟨mixedA, Try.f76, _, Try.func76, rfl, by decide +kernel, rfl, by kernel_rfl, by kernel_rfl⟩
/- glossator/glossatorlaw2.intLiteral -/
def ac77 : AC := .seq
 (.reg [⟨some 2, .alloc 39 7 [(.int .i64 0), (.int .i64 0), (.string ⟨#[]⟩), (.int .i64 0), (.int .i64 0), (.int .i64 0), (.slice none 0 0)], none⟩])
 (.seq
  (.reg [⟨some 3, .mov (.tmp 0), none⟩,
    ⟨some 4, .build [(.int .i64 0), (.int .i64 0), (.string ⟨#[]⟩), (.int .i64 0), (.int .i64 0), (.int .i64 0), (.slice none 0 0)] [(0, 1), (1, 1), (2, 1), (3, 1), (4, 1), (5, 1), (6, 1)] [(0, (.const (.int .i64 27))), (1, (.tmp 3)), (5, (.const (.int .i64 (-1))))], none⟩,
    ⟨none, .store 7 (.tmp 2) (.tmp 4), none⟩])
  (.ret))
theorem fn77 : Fun Try.prog 77 5 ac77 [.cell 2 7 true] := ⟨mixedA, Try.f77, _, Try.func77, rfl, by decide +kernel, rfl, by kernel_rfl, by kernel_rfl⟩
/- glossator/glossatorref2.InRange -/
def ac78 : AC := .seq
 (.reg [⟨some 6, .mov (.const (.bool false)), none⟩])
 (.seq
  (.reg [⟨some 7, .mov (.tmp 1), none⟩,
    ⟨some 8, .mov (.tmp 0), none⟩,
    ⟨some 9, .bin .leq .int (.tmp 7) (.tmp 8), none⟩,
    ⟨some 10, .mov (.tmp 9), none⟩,
    ⟨some 11, .mov (.tmp 0), some (10, true)⟩,
    ⟨some 12, .mov (.tmp 2), some (10, true)⟩,
    ⟨some 13, .bin .leq .int (.tmp 11) (.tmp 12), some (10, true)⟩,
    ⟨some 14, .pick (.tmp 10) (.tmp 13) (.const (.bool false)), none⟩,
    ⟨some 6, .mov (.tmp 14), none⟩])
  (.ret))
theorem fn78 : Fun Try.prog 78 15 ac78 [.tmp 6] := ⟨mixedA, Try.f78, _, Try.func78, rfl, by decide +kernel, rfl, by kernel_rfl, by kernel_rfl⟩
/- glossator/glossatorref2.literal -/
def ac79 : AC := .seq
 (.reg [⟨some 3, .box 39 7 (.tmp 0), none⟩,
   ⟨some 6, .alloc 39 7 [(.int .i64 0), (.int .i64 0), (.string ⟨#[]⟩), (.int .i64 0), (.int .i64 0), (.int .i64 0), (.slice none 0 0)], none⟩])
 (.seq
  (.reg [⟨some 8, .mov (.tmp 1), none⟩,
    ⟨some 9, .faddr 3 (.tmp 3), none⟩,
    ⟨some 10, .load false 1 (.tmp 9), none⟩,
    ⟨some 11, .faddr 4 (.tmp 3), none⟩,
    ⟨some 12, .load false 1 (.tmp 11), none⟩,
    ⟨some 13, .build [(.int .i64 0), (.int .i64 0), (.string ⟨#[]⟩), (.int .i64 0), (.int .i64 0), (.int .i64 0), (.slice none 0 0)] [(0, 1), (1, 1), (2, 1), (3, 1), (4, 1), (5, 1), (6, 1)] [(0, (.const (.int .i64 27))), (1, (.tmp 8)), (3, (.tmp 10)), (4, (.tmp 12)), (5, (.const (.int .i64 (-1))))], none⟩,
    ⟨some 7, .alloc 39 7 [(.int .i64 0), (.int .i64 0), (.string ⟨#[]⟩), (.int .i64 0), (.int .i64 0), (.int .i64 0), (.slice none 0 0)], none⟩,
    ⟨none, .store 7 (.tmp 7) (.tmp 13), none⟩])
  (.seq
   (.seq
    (.reg [⟨some 14, .mov (.tmp 2), none⟩,
      ⟨some 15, .bin .eql .int (.tmp 14) (.const (.int .i64 2)), none⟩])
    (.cond (.tmp 15)
     (.reg [⟨some 16, .faddr 0 (.tmp 7), none⟩,
       ⟨none, .store 1 (.tmp 16) (.const (.int .i64 28)), none⟩])
     (.seq
      (.reg [⟨some 17, .mov (.tmp 1), none⟩,
        ⟨some 18, .bin .lss .int (.tmp 17) (.const (.int .i64 0)), none⟩])
      (.cond (.tmp 18)
       (.seq
        (.reg [⟨some 19, .mov (.tmp 1), none⟩,
          ⟨some 20, .un .neg (.tmp 19), none⟩,
          ⟨some 21, .faddr 1 (.tmp 7), none⟩,
          ⟨none, .store 1 (.tmp 21) (.tmp 20), none⟩])
        (.seq
         (.reg [⟨some 22, .faddr 3 (.tmp 3), none⟩,
           ⟨some 23, .load false 1 (.tmp 22), none⟩,
           ⟨some 24, .faddr 4 (.tmp 3), none⟩,
           ⟨some 25, .load false 1 (.tmp 24), none⟩,
           ⟨some 26, .load true 7 (.tmp 7), none⟩,
           ⟨some 27, .bslice 39 7 [(.int .i64 0), (.int .i64 0), (.string ⟨#[]⟩), (.int .i64 0), (.int .i64 0), (.int .i64 0), (.slice none 0 0)] 1 [(0, (.tmp 26))], none⟩,
           ⟨some 28, .build [(.int .i64 0), (.int .i64 0), (.string ⟨#[]⟩), (.int .i64 0), (.int .i64 0), (.int .i64 0), (.slice none 0 0)] [(0, 1), (1, 1), (2, 1), (3, 1), (4, 1), (5, 1), (6, 1)] [(0, (.const (.int .i64 40))), (2, (.const (.string ⟨#[45]⟩))), (3, (.tmp 23)), (4, (.tmp 25)), (5, (.const (.int .i64 (-1)))), (6, (.tmp 27))], none⟩,
           ⟨none, .store 7 (.tmp 6) (.tmp 28), none⟩])
         (.ret)))
       (.skip)))))
   (.seq
    (.reg [⟨some 29, .load true 7 (.tmp 7), none⟩,
      ⟨none, .store 7 (.tmp 6) (.tmp 29), none⟩])
    (.ret))))
theorem fn79 : Fun Try.prog 79 30 ac79 [.cell 6 7 true] := ⟨mixedA, Try.f79, _, Try.func79, rfl, by decide +kernel, rfl, by kernel_rfl, by kernel_rfl⟩
/- glossator/glossatorref2.asBit -/
def ac80 : AC := .seq
 (.reg [⟨some 2, .mov (.const (.int .i64 0)), none⟩])
 (.seq
  (.seq
   (.reg [⟨some 3, .mov (.tmp 0), none⟩])
   (.cond (.tmp 3)
    (.seq
     (.reg [⟨some 2, .mov (.const (.int .i64 1)), none⟩])
     (.ret))
    (.skip)))
  (.seq
   (.reg [⟨some 2, .mov (.const (.int .i64 0)), none⟩])
   (.ret)))
theorem fn80 : Fun Try.prog 80 4 ac80 [.tmp 2] := ⟨mixedA, Try.f80, _, Try.func80, rfl, by decide +kernel, rfl, by kernel_rfl, by kernel_rfl⟩
/- glossator/constfold.boolNode -/
def ac107 : AC := .seq
 (.reg [⟨some 2, .box 39 7 (.tmp 0), none⟩,
   ⟨some 4, .alloc 39 7 [(.int .i64 0), (.int .i64 0), (.string ⟨#[]⟩), (.int .i64 0), (.int .i64 0), (.int .i64 0), (.slice none 0 0)], none⟩])
 (.seq
  (.reg [⟨some 6, .faddr 3 (.tmp 2), none⟩,
    ⟨some 7, .load false 1 (.tmp 6), none⟩,
    ⟨some 8, .faddr 4 (.tmp 2), none⟩,
    ⟨some 9, .load false 1 (.tmp 8), none⟩,
    ⟨some 10, .build [(.int .i64 0), (.int .i64 0), (.string ⟨#[]⟩), (.int .i64 0), (.int .i64 0), (.int .i64 0), (.slice none 0 0)] [(0, 1), (1, 1), (2, 1), (3, 1), (4, 1), (5, 1), (6, 1)] [(0, (.const (.int .i64 28))), (3, (.tmp 7)), (4, (.tmp 9)), (5, (.const (.int .i64 (-1))))], none⟩,
    ⟨some 5, .alloc 39 7 [(.int .i64 0), (.int .i64 0), (.string ⟨#[]⟩), (.int .i64 0), (.int .i64 0), (.int .i64 0), (.slice none 0 0)], none⟩,
    ⟨none, .store 7 (.tmp 5) (.tmp 10), none⟩])
  (.seq
   (.seq
    (.reg [⟨some 11, .mov (.tmp 1), none⟩])
    (.cond (.tmp 11)
     (.reg [⟨some 12, .faddr 1 (.tmp 5), none⟩,
       ⟨none, .store 1 (.tmp 12) (.const (.int .i64 1)), none⟩])
     (.skip)))
   (.seq
    (.reg [⟨some 13, .load true 7 (.tmp 5), none⟩,
      ⟨none, .store 7 (.tmp 4) (.tmp 13), none⟩])
    (.ret))))
theorem fn107 : Fun Try.prog 107 14 ac107 [.cell 4 7 true] := ⟨mixedA, Try.f107, _, Try.func107, rfl, by decide +kernel, rfl, by kernel_rfl, by kernel_rfl⟩
/- glossator/constfold.arithmetic -/
def ac108 : AC := .seq
 (.reg [⟨some 6, .mov (.const (.int .i64 0)), none⟩,
   ⟨some 7, .mov (.const (.bool false)), none⟩])
 (.seq
  (.reg [⟨some 8, .mov (.const (.int .i64 0)), none⟩])
  (.seq
   (.seq
    (.reg [⟨some 9, .mov (.tmp 0), none⟩])
    (.block 0
     (.seq
      (.reg [⟨some 11, .bin .eql .str (.tmp 9) (.const (.string ⟨#[43]⟩)), none⟩,
        ⟨some 10, .mov (.tmp 11), none⟩])
      (.cond (.tmp 10)
       (.reg [⟨some 12, .mov (.tmp 1), none⟩,
         ⟨some 13, .mov (.tmp 2), none⟩,
         ⟨some 14, .bin .add .int (.tmp 12) (.tmp 13), none⟩,
         ⟨some 8, .mov (.tmp 14), none⟩])
       (.seq
        (.reg [⟨some 16, .bin .eql .str (.tmp 9) (.const (.string ⟨#[45]⟩)), none⟩,
          ⟨some 15, .mov (.tmp 16), none⟩])
        (.cond (.tmp 15)
         (.reg [⟨some 17, .mov (.tmp 1), none⟩,
           ⟨some 18, .mov (.tmp 2), none⟩,
           ⟨some 19, .bin .sub .int (.tmp 17) (.tmp 18), none⟩,
           ⟨some 8, .mov (.tmp 19), none⟩])
         (.seq
          (.reg [⟨some 21, .bin .eql .str (.tmp 9) (.const (.string ⟨#[42]⟩)), none⟩,
            ⟨some 20, .mov (.tmp 21), none⟩])
          (.cond (.tmp 20)
           (.reg [⟨some 22, .mov (.tmp 1), none⟩,
             ⟨some 23, .mov (.tmp 2), none⟩,
             ⟨some 24, .bin .mul .int (.tmp 22) (.tmp 23), none⟩,
             ⟨some 8, .mov (.tmp 24), none⟩])
           (.seq
            (.reg [⟨some 26, .bin .eql .str (.tmp 9) (.const (.string ⟨#[47]⟩)), none⟩,
              ⟨some 25, .mov (.tmp 26), none⟩])
            (.cond (.tmp 25)
             (.seq
              (.seq
               (.reg [⟨some 27, .mov (.tmp 2), none⟩,
                 ⟨some 28, .bin .eql .int (.tmp 27) (.const (.int .i64 0)), none⟩])
               (.cond (.tmp 28)
                (.seq
                 (.reg [⟨some 6, .mov (.const (.int .i64 0)), none⟩,
                   ⟨some 7, .mov (.const (.bool false)), none⟩])
                 (.ret))
                (.skip)))
              (.reg [⟨some 29, .mov (.tmp 1), none⟩,
                ⟨some 30, .mov (.tmp 2), none⟩,
                ⟨some 31, .bin .quo .int (.tmp 29) (.tmp 30), none⟩,
                ⟨some 8, .mov (.tmp 31), none⟩]))
             (.seq
              (.reg [⟨some 6, .mov (.const (.int .i64 0)), none⟩,
                ⟨some 7, .mov (.const (.bool false)), none⟩])
              (.ret))))))))))))
   (.seq
    (.reg [⟨some 32, .mov (.tmp 8), none⟩,
      ⟨some 33, .mov (.tmp 8), none⟩,
      ⟨some 34, .bin .gtr .int (.tmp 33) (.const (.int .i64 (-2147483648))), none⟩,
      ⟨some 35, .mov (.tmp 34), none⟩,
      ⟨some 36, .mov (.tmp 8), some (35, true)⟩,
      ⟨some 37, .bin .leq .int (.tmp 36) (.const (.int .i64 2147483647)), some (35, true)⟩,
      ⟨some 38, .pick (.tmp 35) (.tmp 37) (.const (.bool false)), none⟩,
      ⟨some 6, .mov (.tmp 32), none⟩,
      ⟨some 7, .mov (.tmp 38), none⟩])
    (.ret))))
theorem fn108 : Fun Try.prog 108 39 ac108 [.tmp 6, .tmp 7] := ⟨mixedA, Try.f108, _, Try.func108, rfl, by decide +kernel, rfl, by kernel_rfl, by kernel_rfl⟩
/- glossator/constfold.intNode -/
def ac109 : AC := .seq
 (.reg [⟨some 2, .box 39 7 (.tmp 0), none⟩,
   ⟨some 4, .alloc 39 7 [(.int .i64 0), (.int .i64 0), (.string ⟨#[]⟩), (.int .i64 0), (.int .i64 0), (.int .i64 0), (.slice none 0 0)], none⟩])
 (.seq
  (.reg [⟨some 6, .mov (.tmp 1), none⟩,
    ⟨some 7, .mov (.tmp 1), none⟩,
    ⟨some 8, .un .neg (.tmp 7), none⟩,
    ⟨some 9, .minmax false (.tmp 6) (.tmp 8), none⟩,
    ⟨some 10, .faddr 3 (.tmp 2), none⟩,
    ⟨some 11, .load false 1 (.tmp 10), none⟩,
    ⟨some 12, .faddr 4 (.tmp 2), none⟩,
    ⟨some 13, .load false 1 (.tmp 12), none⟩,
    ⟨some 14, .build [(.int .i64 0), (.int .i64 0), (.string ⟨#[]⟩), (.int .i64 0), (.int .i64 0), (.int .i64 0), (.slice none 0 0)] [(0, 1), (1, 1), (2, 1), (3, 1), (4, 1), (5, 1), (6, 1)] [(0, (.const (.int .i64 27))), (1, (.tmp 9)), (3, (.tmp 11)), (4, (.tmp 13)), (5, (.const (.int .i64 (-1))))], none⟩,
    ⟨some 5, .alloc 39 7 [(.int .i64 0), (.int .i64 0), (.string ⟨#[]⟩), (.int .i64 0), (.int .i64 0), (.int .i64 0), (.slice none 0 0)], none⟩,
    ⟨none, .store 7 (.tmp 5) (.tmp 14), none⟩])
  (.seq
   (.seq
    (.reg [⟨some 15, .mov (.tmp 1), none⟩,
      ⟨some 16, .bin .lss .int (.tmp 15) (.const (.int .i64 0)), none⟩])
    (.cond (.tmp 16)
     (.seq
      (.reg [⟨some 17, .faddr 3 (.tmp 2), none⟩,
        ⟨some 18, .load false 1 (.tmp 17), none⟩,
        ⟨some 19, .faddr 4 (.tmp 2), none⟩,
        ⟨some 20, .load false 1 (.tmp 19), none⟩,
        ⟨some 21, .load true 7 (.tmp 5), none⟩,
        ⟨some 22, .bslice 39 7 [(.int .i64 0), (.int .i64 0), (.string ⟨#[]⟩), (.int .i64 0), (.int .i64 0), (.int .i64 0), (.slice none 0 0)] 1 [(0, (.tmp 21))], none⟩,
        ⟨some 23, .build [(.int .i64 0), (.int .i64 0), (.string ⟨#[]⟩), (.int .i64 0), (.int .i64 0), (.int .i64 0), (.slice none 0 0)] [(0, 1), (1, 1), (2, 1), (3, 1), (4, 1), (5, 1), (6, 1)] [(0, (.const (.int .i64 40))), (2, (.const (.string ⟨#[45]⟩))), (3, (.tmp 18)), (4, (.tmp 20)), (5, (.const (.int .i64 (-1)))), (6, (.tmp 22))], none⟩,
        ⟨none, .store 7 (.tmp 4) (.tmp 23), none⟩])
      (.ret))
     (.skip)))
   (.seq
    (.reg [⟨some 24, .load true 7 (.tmp 5), none⟩,
      ⟨none, .store 7 (.tmp 4) (.tmp 24), none⟩])
    (.ret))))
theorem fn109 : Fun Try.prog 109 25 ac109 [.cell 4 7 true] := ⟨mixedA, Try.f109, _, Try.func109, rfl, by decide +kernel, rfl, by kernel_rfl, by kernel_rfl⟩
end Go.Proofs.Ytgphapkpoamcgaa
