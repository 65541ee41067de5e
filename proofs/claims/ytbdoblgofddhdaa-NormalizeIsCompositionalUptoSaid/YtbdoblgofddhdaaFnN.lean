/- The compact texts of the functions, printed by a program of mine (wip/tools/PrintFn.lean); each is shown to be what the translation compiles to. -/
import Derived.Test.YtbdoblgofddhdaaL2
import Derived.Test.YtbdoblgofddhdaaProg
set_option maxRecDepth 100000
namespace Go.Proofs.Ytbdoblgofddhdaa
open Go Go.Ab
theorem mixedN : Try.prog.follows .mixedOrders = true := by kernel_rfl
/- glossator/glossatorkeep2.NormalizeIsIdempotent -/
def ac7 : AC := .seq
 (.reg [⟨some 4, .box 50 3 (.tmp 0), none⟩,
   ⟨some 7, .box 26 3 (.tmp 3), none⟩,
   ⟨some 8, .mov (.const (.bool false)), none⟩])
 (.seq
  (.seq
   (.reg [⟨some 10, .call (.func 29) [], none⟩,
     ⟨some 11, .un .not (.tmp 10), none⟩])
   (.cond (.tmp 11)
    (.seq
     (.reg [⟨some 8, .mov (.const (.bool false)), none⟩])
     (.ret))
    (.skip)))
  (.seq
   (.seq
    (.reg [⟨some 12, .call (.func 29) [], none⟩,
      ⟨some 13, .un .not (.tmp 12), none⟩,
      ⟨some 14, .mov (.tmp 13), none⟩,
      ⟨some 15, .mov (.tmp 1), some (14, false)⟩,
      ⟨some 16, .slen false (.tmp 15), some (14, false)⟩,
      ⟨some 17, .faddr 0 (.tmp 4), some (14, false)⟩,
      ⟨some 18, .load false 1 (.tmp 17), some (14, false)⟩,
      ⟨some 19, .slen false (.tmp 18), some (14, false)⟩,
      ⟨some 20, .bin .neq .int (.tmp 16) (.tmp 19), some (14, false)⟩,
      ⟨some 21, .pick (.tmp 14) (.const (.bool true)) (.tmp 20), none⟩,
      ⟨some 22, .mov (.tmp 21), none⟩,
      ⟨some 23, .mov (.tmp 1), some (22, false)⟩,
      ⟨some 24, .slen false (.tmp 23), some (22, false)⟩,
      ⟨some 25, .bin .gtr .int (.tmp 24) (.const (.int .i64 12)), some (22, false)⟩,
      ⟨some 26, .pick (.tmp 22) (.const (.bool true)) (.tmp 25), none⟩])
    (.cond (.tmp 26)
     (.seq
      (.reg [⟨some 27, .call (.func 29) [], none⟩,
        ⟨some 8, .mov (.tmp 27), none⟩])
      (.ret))
     (.skip)))
   (.seq
    (.reg [⟨some 28, .load true 3 (.tmp 4), none⟩,
      ⟨some 29, .mov (.tmp 1), none⟩,
      ⟨some 30, .mov (.tmp 2), none⟩,
      ⟨some 31, .load true 3 (.tmp 7), none⟩,
      ⟨some 32, .call (.func 30) [(.tmp 28), (.tmp 29), (.tmp 30), (.tmp 31)], none⟩,
      ⟨some 9, .alloc 26 3 [(.int .i64 0), (.int .i64 0), (.slice none 0 0)], none⟩,
      ⟨none, .store 3 (.tmp 9) (.tmp 32), none⟩])
    (.seq
     (.seq
      (.reg [⟨some 33, .load true 3 (.tmp 7), none⟩,
        ⟨some 34, .call (.func 31) [(.tmp 33)], none⟩,
        ⟨some 35, .un .not (.tmp 34), none⟩,
        ⟨some 36, .mov (.tmp 35), none⟩,
        ⟨some 37, .load true 3 (.tmp 7), some (36, true)⟩,
        ⟨some 38, .call (.func 32) [(.tmp 37)], some (36, true)⟩,
        ⟨some 39, .bin .eql .int (.tmp 38) (.const (.int .i64 0)), some (36, true)⟩,
        ⟨some 40, .pick (.tmp 36) (.tmp 39) (.const (.bool false)), none⟩,
        ⟨some 41, .mov (.tmp 40), none⟩,
        ⟨some 42, .load true 3 (.tmp 9), some (41, true)⟩,
        ⟨some 43, .load true 3 (.tmp 7), some (41, true)⟩,
        ⟨some 44, .call (.func 24) [(.tmp 42), (.tmp 43)], some (41, true)⟩,
        ⟨some 45, .un .not (.tmp 44), some (41, true)⟩,
        ⟨some 46, .pick (.tmp 41) (.tmp 45) (.const (.bool false)), none⟩])
      (.cond (.tmp 46)
       (.seq
        (.reg [⟨some 8, .mov (.const (.bool false)), none⟩])
        (.ret))
       (.skip)))
     (.seq
      (.dreg [⟨some 47, .load true 3 (.tmp 9), none⟩,
        ⟨some 48, .call (.func 33) [(.tmp 47)], none⟩,
        ⟨some 49, .mov (.tmp 48), none⟩,
        ⟨some 50, .load true 3 (.tmp 4), some (49, false)⟩,
        ⟨some 51, .mov (.tmp 1), some (49, false)⟩,
        ⟨some 52, .mov (.tmp 2), some (49, false)⟩,
        ⟨some 53, .load true 3 (.tmp 9), some (49, false)⟩,
        ⟨some 54, .call (.func 30) [(.tmp 50), (.tmp 51), (.tmp 52), (.tmp 53)], some (49, false)⟩,
        ⟨some 55, .load true 3 (.tmp 9), some (49, false)⟩,
        ⟨some 56, .call (.func 24) [(.tmp 54), (.tmp 55)], some (49, false)⟩,
        ⟨some 57, .pick (.tmp 49) (.const (.bool true)) (.tmp 56), none⟩,
        ⟨some 8, .mov (.tmp 57), none⟩]
        [[], [0], [1, 1], [2], [2], [2], [2], [3, 4, 5, 6, 2, 2], [2], [7, 8, 7, 2], [2, 9], [10, 9, 0, 1, 2, 3, 4, 5, 6, 7, 8, 9, 10]]
        [[9], [47], [48], [4, 49], [1, 49], [2, 49], [9, 49], [50, 51, 52, 53, 49], [9, 49], [54, 55, 49], [49, 56], [57]])
      (.ret))))))
theorem fn7 : Fun Try.prog 7 58 ac7 [.tmp 8] := ⟨mixedN, Try.f7, _, Try.func7, rfl, by decide +kernel, rfl, by kernel_rfl, by kernel_rfl⟩
/- glossator/glossatorkeep2.NormalizeIsCompositional -/
def ac8_l0 : AC := .seq
 (.reg [⟨some 50, .bin .lss .int (.tmp 49) (.tmp 48), none⟩])
 (.seq
  (.cond (.tmp 50)
   (.skip)
   (.exit 0))
  (.seq
   (.block 1
    (.seq
     (.reg [⟨some 51, .iaddr 3 (.tmp 47) (.tmp 49), none⟩,
       ⟨some 52, .load true 3 (.tmp 51), none⟩,
       ⟨some 12, .alloc 26 3 [(.int .i64 0), (.int .i64 0), (.slice none 0 0)], none⟩,
       ⟨none, .store 3 (.tmp 12) (.tmp 52), none⟩])
     (.dreg [⟨some 53, .faddr 2 (.tmp 10), none⟩,
       ⟨some 54, .load false 1 (.tmp 53), none⟩,
       ⟨some 55, .load true 3 (.tmp 4), none⟩,
       ⟨some 56, .mov (.tmp 1), none⟩,
       ⟨some 57, .mov (.tmp 2), none⟩,
       ⟨some 58, .load true 3 (.tmp 12), none⟩,
       ⟨some 59, .call (.func 30) [(.tmp 55), (.tmp 56), (.tmp 57), (.tmp 58)], none⟩,
       ⟨some 60, .bslice 26 3 [(.int .i64 0), (.int .i64 0), (.slice none 0 0)] 1 [(0, (.tmp 59))], none⟩,
       ⟨some 61, .app 26 3 (.tmp 54) (.tmp 60), none⟩,
       ⟨some 62, .faddr 2 (.tmp 10), none⟩,
       ⟨none, .store 1 (.tmp 62) (.tmp 61), none⟩]
       [[], [0], [], [], [], [], [2, 3, 4, 5], [6], [1, 7, 6], [0, 1, 2, 3, 4, 5, 6, 7, 8], [9, 8, 8, 0, 1, 2, 3, 4, 5, 6, 7, 8]]
       [[10], [53], [4], [1], [2], [12], [55, 56, 57, 58], [59], [54, 60], [10], [62, 61]])))
   (.reg [⟨some 63, .bin .add .int (.tmp 49) (.const (.int .i64 1)), none⟩,
     ⟨some 49, .mov (.tmp 63), none⟩])))
def ac8 : AC := .seq
 (.reg [⟨some 4, .box 50 3 (.tmp 0), none⟩,
   ⟨some 7, .box 26 3 (.tmp 3), none⟩,
   ⟨some 8, .mov (.const (.bool false)), none⟩])
 (.seq
  (.seq
   (.reg [⟨some 13, .call (.func 29) [], none⟩,
     ⟨some 14, .un .not (.tmp 13), none⟩])
   (.cond (.tmp 14)
    (.seq
     (.reg [⟨some 8, .mov (.const (.bool false)), none⟩])
     (.ret))
    (.skip)))
  (.seq
   (.seq
    (.reg [⟨some 15, .call (.func 29) [], none⟩,
      ⟨some 16, .un .not (.tmp 15), none⟩,
      ⟨some 17, .mov (.tmp 16), none⟩,
      ⟨some 18, .mov (.tmp 1), some (17, false)⟩,
      ⟨some 19, .slen false (.tmp 18), some (17, false)⟩,
      ⟨some 20, .faddr 0 (.tmp 4), some (17, false)⟩,
      ⟨some 21, .load false 1 (.tmp 20), some (17, false)⟩,
      ⟨some 22, .slen false (.tmp 21), some (17, false)⟩,
      ⟨some 23, .bin .neq .int (.tmp 19) (.tmp 22), some (17, false)⟩,
      ⟨some 24, .pick (.tmp 17) (.const (.bool true)) (.tmp 23), none⟩,
      ⟨some 25, .mov (.tmp 24), none⟩,
      ⟨some 26, .mov (.tmp 1), some (25, false)⟩,
      ⟨some 27, .slen false (.tmp 26), some (25, false)⟩,
      ⟨some 28, .bin .gtr .int (.tmp 27) (.const (.int .i64 12)), some (25, false)⟩,
      ⟨some 29, .pick (.tmp 25) (.const (.bool true)) (.tmp 28), none⟩,
      ⟨some 30, .mov (.tmp 29), none⟩,
      ⟨some 31, .faddr 0 (.tmp 7), some (30, false)⟩,
      ⟨some 32, .load false 1 (.tmp 31), some (30, false)⟩,
      ⟨some 33, .bin .eql .int (.tmp 32) (.const (.int .i64 10)), some (30, false)⟩,
      ⟨some 34, .pick (.tmp 30) (.const (.bool true)) (.tmp 33), none⟩])
    (.cond (.tmp 34)
     (.seq
      (.reg [⟨some 35, .call (.func 29) [], none⟩,
        ⟨some 8, .mov (.tmp 35), none⟩])
      (.ret))
     (.skip)))
   (.seq
    (.reg [⟨some 36, .load true 3 (.tmp 4), none⟩,
      ⟨some 37, .mov (.tmp 1), none⟩,
      ⟨some 38, .mov (.tmp 2), none⟩,
      ⟨some 39, .load true 3 (.tmp 7), none⟩,
      ⟨some 40, .call (.func 30) [(.tmp 36), (.tmp 37), (.tmp 38), (.tmp 39)], none⟩,
      ⟨some 9, .alloc 26 3 [(.int .i64 0), (.int .i64 0), (.slice none 0 0)], none⟩,
      ⟨none, .store 3 (.tmp 9) (.tmp 40), none⟩])
    (.seq
     (.reg [⟨some 41, .faddr 0 (.tmp 7), none⟩,
       ⟨some 42, .load false 1 (.tmp 41), none⟩,
       ⟨some 43, .faddr 1 (.tmp 7), none⟩,
       ⟨some 44, .load false 1 (.tmp 43), none⟩,
       ⟨some 45, .build [(.int .i64 0), (.int .i64 0), (.slice none 0 0)] [(0, 1), (1, 1), (2, 1)] [(0, (.tmp 42)), (1, (.tmp 44))], none⟩,
       ⟨some 10, .alloc 26 3 [(.int .i64 0), (.int .i64 0), (.slice none 0 0)], none⟩,
       ⟨none, .store 3 (.tmp 10) (.tmp 45), none⟩])
     (.seq
      (.seq
       (.reg [⟨some 46, .faddr 2 (.tmp 7), none⟩,
         ⟨some 47, .load false 1 (.tmp 46), none⟩,
         ⟨some 48, .slen false (.tmp 47), none⟩,
         ⟨some 49, .mov (.const (.int .i64 0)), none⟩])
       (.block 0
        (.loop ac8_l0)))
      (.seq
       (.reg [⟨some 64, .load true 3 (.tmp 9), none⟩,
         ⟨some 65, .call (.func 33) [(.tmp 64)], none⟩,
         ⟨some 66, .mov (.tmp 65), none⟩,
         ⟨some 67, .load true 3 (.tmp 10), some (66, false)⟩,
         ⟨some 68, .call (.func 33) [(.tmp 67)], some (66, false)⟩,
         ⟨some 69, .pick (.tmp 66) (.const (.bool true)) (.tmp 68), none⟩,
         ⟨some 70, .mov (.tmp 69), none⟩,
         ⟨some 71, .load true 3 (.tmp 9), some (70, false)⟩,
         ⟨some 72, .load true 3 (.tmp 10), some (70, false)⟩,
         ⟨some 73, .call (.func 24) [(.tmp 71), (.tmp 72)], some (70, false)⟩,
         ⟨some 74, .pick (.tmp 70) (.const (.bool true)) (.tmp 73), none⟩,
         ⟨some 8, .mov (.tmp 74), none⟩])
       (.ret)))))))
theorem fn8 : Fun Try.prog 8 75 ac8 [.tmp 8] := ⟨mixedN, Try.f8, _, Try.func8, rfl, by decide +kernel, rfl, by kernel_rfl, by kernel_rfl⟩
/- glossator/glossatorlaw2.NormalizeMatchesReference -/
def ac9_l0 : AC := .seq
 (.reg [⟨some 39, .bin .lss .int (.tmp 38) (.tmp 37), none⟩])
 (.seq
  (.cond (.tmp 39)
   (.skip)
   (.exit 0))
  (.seq
   (.block 1
    (.seq
     (.reg [⟨some 40, .iaddr 7 (.tmp 36) (.tmp 38), none⟩,
       ⟨some 41, .load true 7 (.tmp 40), none⟩,
       ⟨some 11, .alloc 40 7 [(.slice none 0 0), (.int .i64 0), (.int .i64 0), (.slice none 0 0), (.int .i64 0), (.slice none 0 0), (.slice none 0 0)], none⟩,
       ⟨none, .store 7 (.tmp 11) (.tmp 41), none⟩])
     (.seq
      (.reg [⟨some 43, .faddr 1 (.tmp 11), none⟩,
        ⟨some 44, .load true 3 (.tmp 43), none⟩,
        ⟨some 45, .call (.func 36) [(.tmp 44)], none⟩,
        ⟨some 42, .mov (.tmp 45), none⟩,
        ⟨some 46, .ext (.tmp 42) 0, none⟩,
        ⟨some 47, .ext (.tmp 42) 1, none⟩,
        ⟨some 12, .mov (.tmp 46), none⟩,
        ⟨some 13, .mov (.tmp 47), none⟩])
      (.seq
       (.reg [⟨some 48, .mov (.tmp 12), none⟩,
         ⟨some 49, .bin .gtr .int (.tmp 48) (.const (.int .i64 6)), none⟩,
         ⟨some 50, .mov (.tmp 49), none⟩,
         ⟨some 51, .faddr 5 (.tmp 11), some (50, false)⟩,
         ⟨some 52, .load false 1 (.tmp 51), some (50, false)⟩,
         ⟨some 53, .slen false (.tmp 52), some (50, false)⟩,
         ⟨some 54, .bin .gtr .int (.tmp 53) (.const (.int .i64 1)), some (50, false)⟩,
         ⟨some 55, .pick (.tmp 50) (.const (.bool true)) (.tmp 54), none⟩,
         ⟨some 56, .mov (.tmp 55), none⟩,
         ⟨some 57, .mov (.tmp 1), some (56, false)⟩,
         ⟨some 58, .slen false (.tmp 57), some (56, false)⟩,
         ⟨some 59, .bin .gtr .int (.tmp 58) (.const (.int .i64 12)), some (56, false)⟩,
         ⟨some 60, .pick (.tmp 56) (.const (.bool true)) (.tmp 59), none⟩,
         ⟨some 61, .mov (.tmp 60), none⟩,
         ⟨some 62, .faddr 1 (.tmp 11), some (61, false)⟩,
         ⟨some 63, .load true 3 (.tmp 62), some (61, false)⟩,
         ⟨some 64, .call (.func 37) [(.tmp 63)], some (61, false)⟩,
         ⟨some 65, .bin .gtr .int (.tmp 64) (.const (.int .i64 1)), some (61, false)⟩,
         ⟨some 66, .pick (.tmp 61) (.const (.bool true)) (.tmp 65), none⟩])
       (.cond (.tmp 66)
        (.seq
         (.reg [⟨some 8, .mov (.const (.bool true)), none⟩])
         (.ret))
        (.skip))))))
   (.reg [⟨some 67, .bin .add .int (.tmp 38) (.const (.int .i64 1)), none⟩,
     ⟨some 38, .mov (.tmp 67), none⟩])))
def ac9 : AC := .seq
 (.reg [⟨some 4, .box 50 3 (.tmp 0), none⟩,
   ⟨some 7, .box 26 3 (.tmp 3), none⟩,
   ⟨some 8, .mov (.const (.bool false)), none⟩])
 (.seq
  (.seq
   (.reg [⟨some 16, .call (.func 34) [], none⟩,
     ⟨some 17, .un .not (.tmp 16), none⟩])
   (.cond (.tmp 17)
    (.seq
     (.reg [⟨some 8, .mov (.const (.bool false)), none⟩])
     (.ret))
    (.skip)))
  (.seq
   (.reg [⟨some 18, .load true 3 (.tmp 4), none⟩,
     ⟨some 19, .mov (.tmp 1), none⟩,
     ⟨some 20, .mov (.tmp 2), none⟩,
     ⟨some 21, .load true 3 (.tmp 7), none⟩,
     ⟨some 22, .call (.func 30) [(.tmp 18), (.tmp 19), (.tmp 20), (.tmp 21)], none⟩,
     ⟨some 9, .alloc 26 3 [(.int .i64 0), (.int .i64 0), (.slice none 0 0)], none⟩,
     ⟨none, .store 3 (.tmp 9) (.tmp 22), none⟩])
   (.seq
    (.seq
     (.reg [⟨some 23, .mov (.tmp 1), none⟩,
       ⟨some 24, .slen false (.tmp 23), none⟩,
       ⟨some 25, .faddr 0 (.tmp 4), none⟩,
       ⟨some 26, .load false 1 (.tmp 25), none⟩,
       ⟨some 27, .slen false (.tmp 26), none⟩,
       ⟨some 28, .bin .neq .int (.tmp 24) (.tmp 27), none⟩])
     (.cond (.tmp 28)
      (.seq
       (.reg [⟨some 29, .load true 3 (.tmp 9), none⟩,
         ⟨some 30, .build [(.int .i64 0), (.int .i64 0), (.slice none 0 0)] [(0, 1), (1, 1), (2, 1)] [], none⟩,
         ⟨some 31, .call (.func 35) [(.tmp 29), (.tmp 30)], none⟩,
         ⟨some 8, .mov (.tmp 31), none⟩])
       (.ret))
      (.skip)))
    (.seq
     (.seq
      (.reg [⟨some 32, .load true 3 (.tmp 7), none⟩,
        ⟨some 33, .build [(.slice none 0 0), (.int .i64 0), (.int .i64 0), (.slice none 0 0), (.int .i64 0), (.slice none 0 0), (.slice none 0 0)] [(0, 1), (1, 3), (4, 1), (5, 1), (6, 1)] [(1, (.tmp 32))], none⟩,
        ⟨some 34, .bslice 40 7 [(.slice none 0 0), (.int .i64 0), (.int .i64 0), (.slice none 0 0), (.int .i64 0), (.slice none 0 0), (.slice none 0 0)] 1 [(0, (.tmp 33))], none⟩,
        ⟨some 35, .mov (.tmp 1), none⟩,
        ⟨some 36, .app 40 7 (.tmp 34) (.tmp 35), none⟩,
        ⟨some 37, .slen false (.tmp 36), none⟩,
        ⟨some 38, .mov (.const (.int .i64 0)), none⟩])
      (.block 0
       (.loop ac9_l0)))
     (.seq
      (.reg [⟨some 69, .load true 3 (.tmp 4), none⟩,
        ⟨some 70, .mov (.tmp 1), none⟩,
        ⟨some 71, .mov (.tmp 2), none⟩,
        ⟨some 72, .load true 3 (.tmp 7), none⟩,
        ⟨some 73, .call (.func 38) [(.tmp 69), (.tmp 70), (.tmp 71), (.tmp 72), (.const (.int .i64 0))], none⟩,
        ⟨some 68, .mov (.tmp 73), none⟩,
        ⟨some 74, .ext (.tmp 68) 0, none⟩,
        ⟨some 75, .ext (.tmp 68) 1, none⟩,
        ⟨some 14, .alloc 26 3 [(.int .i64 0), (.int .i64 0), (.slice none 0 0)], none⟩,
        ⟨none, .store 3 (.tmp 14) (.tmp 74), none⟩,
        ⟨some 15, .mov (.tmp 75), none⟩])
      (.seq
       (.seq
        (.reg [⟨some 76, .mov (.tmp 15), none⟩,
          ⟨some 77, .un .not (.tmp 76), none⟩,
          ⟨some 78, .mov (.tmp 77), none⟩,
          ⟨some 79, .load true 3 (.tmp 14), some (78, false)⟩,
          ⟨some 80, .call (.func 39) [(.tmp 79)], some (78, false)⟩,
          ⟨some 81, .bin .eql .int (.tmp 80) (.const (.int .i64 2)), some (78, false)⟩,
          ⟨some 82, .pick (.tmp 78) (.const (.bool true)) (.tmp 81), none⟩])
        (.cond (.tmp 82)
         (.reg [⟨some 83, .build [(.int .i64 0), (.int .i64 0), (.slice none 0 0)] [(0, 1), (1, 1), (2, 1)] [], none⟩,
           ⟨none, .store 3 (.tmp 14) (.tmp 83), none⟩])
         (.skip)))
       (.seq
        (.reg [⟨some 84, .load true 3 (.tmp 9), none⟩,
          ⟨some 85, .load true 3 (.tmp 14), none⟩,
          ⟨some 86, .call (.func 35) [(.tmp 84), (.tmp 85)], none⟩,
          ⟨some 8, .mov (.tmp 86), none⟩])
        (.ret))))))))
theorem fn9 : Fun Try.prog 9 87 ac9 [.tmp 8] := ⟨mixedN, Try.f9, _, Try.func9, rfl, by decide +kernel, rfl, by kernel_rfl, by kernel_rfl⟩
/- glossator/glossatorkeep2.assoctypesWork -/
def ac29 : AC := .seq
 (.reg [⟨some 0, .mov (.const (.bool false)), none⟩])
 (.seq
  (.reg [⟨some 7, .call (.func 87) [], none⟩,
    ⟨some 6, .mov (.tmp 7), none⟩,
    ⟨some 8, .ext (.tmp 6) 0, none⟩,
    ⟨some 9, .ext (.tmp 6) 1, none⟩,
    ⟨some 1, .alloc 50 3 [(.slice none 0 0), (.slice none 0 0), (.slice none 0 0)], none⟩,
    ⟨none, .store 3 (.tmp 1) (.tmp 8), none⟩,
    ⟨some 2, .mov (.tmp 9), none⟩])
  (.seq
   (.dreg [⟨some 10, .load true 3 (.tmp 1), none⟩,
     ⟨some 11, .mov (.tmp 2), none⟩,
     ⟨some 12, .call (.func 75) [], none⟩,
     ⟨some 13, .bslice 26 3 [(.int .i64 0), (.int .i64 0), (.slice none 0 0)] 1 [(0, (.tmp 12))], none⟩,
     ⟨some 14, .call (.func 74) [(.const (.int .i64 10)), (.const (.int .i64 1)), (.tmp 13)], none⟩,
     ⟨some 15, .bslice 26 3 [(.int .i64 0), (.int .i64 0), (.slice none 0 0)] 1 [(0, (.tmp 14))], none⟩,
     ⟨some 16, .call (.func 74) [(.const (.int .i64 8)), (.const (.int .i64 0)), (.tmp 15)], none⟩,
     ⟨some 17, .call (.func 30) [(.tmp 10), (.tmp 11), (.const (.slice none 0 0)), (.tmp 16)], none⟩,
     ⟨some 3, .alloc 26 3 [(.int .i64 0), (.int .i64 0), (.slice none 0 0)], none⟩,
     ⟨none, .store 3 (.tmp 3) (.tmp 17), none⟩]
     [[], [], [], [2], [3, 2], [4], [5, 4], [0, 1, 6, 6], [], [8, 7, 7, 0, 1, 2, 3, 4, 5, 6, 7, 8]]
     [[1], [2], [], [12], [13], [14], [15], [10, 11, 16], [], [3, 17]])
   (.seq
    (.reg [⟨some 18, .call (.func 88) [(.const (.int .i64 7))], none⟩,
      ⟨some 19, .bslice 26 3 [(.int .i64 0), (.int .i64 0), (.slice none 0 0)] 1 [(0, (.tmp 18))], none⟩,
      ⟨some 20, .call (.func 74) [(.const (.int .i64 10)), (.const (.int .i64 1)), (.tmp 19)], none⟩,
      ⟨some 4, .alloc 26 3 [(.int .i64 0), (.int .i64 0), (.slice none 0 0)], none⟩,
      ⟨none, .store 3 (.tmp 4) (.tmp 20), none⟩])
    (.seq
     (.dreg [⟨some 21, .load true 3 (.tmp 1), none⟩,
       ⟨some 22, .mov (.tmp 2), none⟩,
       ⟨some 23, .call (.func 88) [(.const (.int .i64 7))], none⟩,
       ⟨some 24, .build [(.int .i64 0), (.int .i64 0), (.slice none 0 0), (.int .i64 0)] [(0, 3), (3, 1)] [(0, (.tmp 23))], none⟩,
       ⟨some 25, .bslice 43 4 [(.int .i64 0), (.int .i64 0), (.slice none 0 0), (.int .i64 0)] 1 [(0, (.tmp 24))], none⟩,
       ⟨some 26, .load true 3 (.tmp 4), none⟩,
       ⟨some 27, .call (.func 30) [(.tmp 21), (.tmp 22), (.tmp 25), (.tmp 26)], none⟩,
       ⟨some 5, .alloc 26 3 [(.int .i64 0), (.int .i64 0), (.slice none 0 0)], none⟩,
       ⟨none, .store 3 (.tmp 5) (.tmp 27), none⟩]
       [[], [], [], [2], [3], [], [0, 1, 4, 5, 2], [], [7, 6, 6, 0, 1, 2, 3, 4, 5, 6, 7]]
       [[1], [2], [], [23], [24], [4], [21, 22, 25, 26], [], [5, 27]])
     (.seq
      (.dreg [⟨some 28, .load true 3 (.tmp 3), none⟩,
        ⟨some 29, .call (.func 74) [(.const (.int .i64 4)), (.const (.int .i64 0)), (.const (.slice none 0 0))], none⟩,
        ⟨some 30, .bslice 26 3 [(.int .i64 0), (.int .i64 0), (.slice none 0 0)] 1 [(0, (.tmp 29))], none⟩,
        ⟨some 31, .call (.func 74) [(.const (.int .i64 8)), (.const (.int .i64 0)), (.tmp 30)], none⟩,
        ⟨some 32, .call (.func 24) [(.tmp 28), (.tmp 31)], none⟩,
        ⟨some 33, .mov (.tmp 32), none⟩,
        ⟨some 34, .load true 3 (.tmp 5), some (33, true)⟩,
        ⟨some 35, .load true 3 (.tmp 4), some (33, true)⟩,
        ⟨some 36, .call (.func 24) [(.tmp 34), (.tmp 35)], some (33, true)⟩,
        ⟨some 37, .pick (.tmp 33) (.tmp 36) (.const (.bool false)), none⟩,
        ⟨some 0, .mov (.tmp 37), none⟩]
        [[], [], [1], [2, 1], [0, 3, 3], [4, 4], [5], [5], [6, 7, 5, 5], [5, 8], [9, 8, 0, 1, 2, 3, 4, 5, 6, 7, 8, 9]]
        [[3], [], [29], [30], [28, 31], [32], [5, 33], [4, 33], [34, 35, 33], [33, 36], [37]])
      (.ret))))))
theorem fn29 : Fun Try.prog 29 38 ac29 [.tmp 0] := ⟨mixedN, Try.f29, _, Try.func29, rfl, by decide +kernel, rfl, by kernel_rfl, by kernel_rfl⟩
/- glossator/assoctypes.Normalize -/
def ac30 : AC := .seq
 (.reg [⟨some 4, .box 50 3 (.tmp 0), none⟩,
   ⟨some 7, .box 26 3 (.tmp 3), none⟩,
   ⟨some 8, .alloc 26 3 [(.int .i64 0), (.int .i64 0), (.slice none 0 0)], none⟩])
 (.seq
  (.seq
   (.reg [⟨some 10, .mov (.tmp 1), none⟩,
     ⟨some 11, .slen false (.tmp 10), none⟩,
     ⟨some 12, .faddr 0 (.tmp 4), none⟩,
     ⟨some 13, .load false 1 (.tmp 12), none⟩,
     ⟨some 14, .slen false (.tmp 13), none⟩,
     ⟨some 15, .bin .neq .int (.tmp 11) (.tmp 14), none⟩])
   (.cond (.tmp 15)
    (.seq
     (.reg [⟨some 16, .build [(.int .i64 0), (.int .i64 0), (.slice none 0 0)] [(0, 1), (1, 1), (2, 1)] [], none⟩,
       ⟨none, .store 3 (.tmp 8) (.tmp 16), none⟩])
     (.ret))
    (.skip)))
  (.seq
   (.reg [⟨some 17, .load true 3 (.tmp 4), none⟩,
     ⟨some 18, .mov (.tmp 1), none⟩,
     ⟨some 19, .mov (.tmp 2), none⟩,
     ⟨some 20, .build [(.slice none 0 0), (.slice none 0 0), (.slice none 0 0), (.slice none 0 0), (.slice none 0 0), (.bool false)] [(0, 3), (3, 1), (4, 1), (5, 1)] [(0, (.tmp 17)), (1, (.tmp 18)), (2, (.tmp 19))], none⟩,
     ⟨some 21, .box 119 6 (.tmp 20), none⟩,
     ⟨some 9, .mov (.tmp 21), none⟩])
   (.seq
    (.reg [⟨some 22, .mov (.tmp 9), none⟩,
      ⟨some 23, .load true 3 (.tmp 7), none⟩,
      ⟨some 24, .call (.func 89) [(.tmp 22), (.tmp 23), (.const (.int .i64 8))], none⟩,
      ⟨none, .store 3 (.tmp 7) (.tmp 24), none⟩])
    (.seq
     (.seq
      (.reg [⟨some 25, .mov (.tmp 9), none⟩,
        ⟨some 26, .nilc (.tmp 25), none⟩,
        ⟨some 27, .faddr 5 (.tmp 26), none⟩,
        ⟨some 28, .load false 1 (.tmp 27), none⟩,
        ⟨some 29, .mov (.tmp 28), none⟩,
        ⟨some 30, .load true 3 (.tmp 7), some (29, false)⟩,
        ⟨some 31, .call (.func 32) [(.tmp 30)], some (29, false)⟩,
        ⟨some 32, .bin .eql .int (.tmp 31) (.const (.int .i64 2)), some (29, false)⟩,
        ⟨some 33, .pick (.tmp 29) (.const (.bool true)) (.tmp 32), none⟩])
      (.cond (.tmp 33)
       (.seq
        (.reg [⟨some 34, .build [(.int .i64 0), (.int .i64 0), (.slice none 0 0)] [(0, 1), (1, 1), (2, 1)] [], none⟩,
          ⟨none, .store 3 (.tmp 8) (.tmp 34), none⟩])
        (.ret))
       (.skip)))
     (.seq
      (.reg [⟨some 35, .load true 3 (.tmp 7), none⟩,
        ⟨none, .store 3 (.tmp 8) (.tmp 35), none⟩])
      (.ret))))))
theorem fn30 : Fun Try.prog 30 36 ac30 [.cell 8 3 true] := ⟨mixedN, Try.f30, _, Try.func30, rfl, by decide +kernel, rfl, by kernel_rfl, by kernel_rfl⟩
/- glossator/glossatorkeep2.containsProjection -/
def ac31 : AC := .seq
 (.reg [⟨some 1, .box 26 3 (.tmp 0), none⟩,
   ⟨some 2, .mov (.const (.bool false)), none⟩])
 (.seq
  (.reg [⟨some 3, .faddr 0 (.tmp 1), none⟩,
    ⟨some 4, .load false 1 (.tmp 3), none⟩,
    ⟨some 5, .bin .eql .int (.tmp 4) (.const (.int .i64 10)), none⟩,
    ⟨some 6, .mov (.tmp 5), none⟩,
    ⟨some 7, .faddr 2 (.tmp 1), some (6, false)⟩,
    ⟨some 8, .load false 1 (.tmp 7), some (6, false)⟩,
    ⟨some 9, .call (.func 90) [(.tmp 8), (.func 31)], some (6, false)⟩,
    ⟨some 10, .pick (.tmp 6) (.const (.bool true)) (.tmp 9), none⟩,
    ⟨some 2, .mov (.tmp 10), none⟩])
  (.ret))
theorem fn31 : Fun Try.prog 31 11 ac31 [.tmp 2] := ⟨mixedN, Try.f31, _, Try.func31, rfl, by decide +kernel, rfl, by kernel_rfl, by kernel_rfl⟩
/- glossator/types.Validate -/
def ac32 : AC := .seq
 (.reg [⟨some 1, .box 26 3 (.tmp 0), none⟩,
   ⟨some 2, .mov (.const (.int .i64 0)), none⟩])
 (.seq
  (.seq
   (.reg [⟨some 6, .load true 3 (.tmp 1), none⟩,
     ⟨some 7, .call (.func 91) [(.tmp 6), (.const (.int .i64 100))], none⟩,
     ⟨some 5, .mov (.tmp 7), none⟩,
     ⟨some 8, .ext (.tmp 5) 0, none⟩,
     ⟨some 9, .ext (.tmp 5) 1, none⟩,
     ⟨some 3, .mov (.tmp 8), none⟩,
     ⟨some 4, .mov (.tmp 9), none⟩])
   (.seq
    (.reg [⟨some 10, .mov (.tmp 3), none⟩,
      ⟨some 11, .bin .gtr .int (.tmp 10) (.const (.int .i64 100)), none⟩,
      ⟨some 12, .mov (.tmp 11), none⟩,
      ⟨some 13, .mov (.tmp 4), some (12, false)⟩,
      ⟨some 14, .bin .gtr .int (.tmp 13) (.const (.int .i64 12)), some (12, false)⟩,
      ⟨some 15, .pick (.tmp 12) (.const (.bool true)) (.tmp 14), none⟩])
    (.cond (.tmp 15)
     (.seq
      (.reg [⟨some 2, .mov (.const (.int .i64 2)), none⟩])
      (.ret))
     (.skip))))
  (.seq
   (.seq
    (.reg [⟨some 16, .load true 3 (.tmp 1), none⟩,
      ⟨some 17, .call (.func 92) [(.tmp 16)], none⟩,
      ⟨some 18, .un .not (.tmp 17), none⟩])
    (.cond (.tmp 18)
     (.seq
      (.reg [⟨some 2, .mov (.const (.int .i64 3)), none⟩])
      (.ret))
     (.skip)))
   (.seq
    (.reg [⟨some 2, .mov (.const (.int .i64 0)), none⟩])
    (.ret))))
theorem fn32 : Fun Try.prog 32 19 ac32 [.tmp 2] := ⟨mixedN, Try.f32, _, Try.func32, rfl, by decide +kernel, rfl, by kernel_rfl, by kernel_rfl⟩
/- glossator/glossatorkeep2.containsErrorType -/
def ac33 : AC := .seq
 (.reg [⟨some 1, .box 26 3 (.tmp 0), none⟩,
   ⟨some 2, .mov (.const (.bool false)), none⟩])
 (.seq
  (.reg [⟨some 3, .faddr 0 (.tmp 1), none⟩,
    ⟨some 4, .load false 1 (.tmp 3), none⟩,
    ⟨some 5, .bin .eql .int (.tmp 4) (.const (.int .i64 0)), none⟩,
    ⟨some 6, .mov (.tmp 5), none⟩,
    ⟨some 7, .faddr 2 (.tmp 1), some (6, false)⟩,
    ⟨some 8, .load false 1 (.tmp 7), some (6, false)⟩,
    ⟨some 9, .call (.func 90) [(.tmp 8), (.func 33)], some (6, false)⟩,
    ⟨some 10, .pick (.tmp 6) (.const (.bool true)) (.tmp 9), none⟩,
    ⟨some 2, .mov (.tmp 10), none⟩])
  (.ret))
theorem fn33 : Fun Try.prog 33 11 ac33 [.tmp 2] := ⟨mixedN, Try.f33, _, Try.func33, rfl, by decide +kernel, rfl, by kernel_rfl, by kernel_rfl⟩
/- glossator/glossatorlaw2.assoctypesWork -/
def ac34 : AC := .seq
 (.reg [⟨some 0, .mov (.const (.bool false)), none⟩])
 (.seq
  (.reg [⟨some 7, .call (.func 93) [], none⟩,
    ⟨some 6, .mov (.tmp 7), none⟩,
    ⟨some 8, .ext (.tmp 6) 0, none⟩,
    ⟨some 9, .ext (.tmp 6) 1, none⟩,
    ⟨some 1, .alloc 50 3 [(.slice none 0 0), (.slice none 0 0), (.slice none 0 0)], none⟩,
    ⟨none, .store 3 (.tmp 1) (.tmp 8), none⟩,
    ⟨some 2, .mov (.tmp 9), none⟩])
  (.seq
   (.dreg [⟨some 10, .load true 3 (.tmp 1), none⟩,
     ⟨some 11, .mov (.tmp 2), none⟩,
     ⟨some 12, .call (.func 82) [], none⟩,
     ⟨some 13, .bslice 26 3 [(.int .i64 0), (.int .i64 0), (.slice none 0 0)] 1 [(0, (.tmp 12))], none⟩,
     ⟨some 14, .call (.func 81) [(.const (.int .i64 10)), (.const (.int .i64 1)), (.tmp 13)], none⟩,
     ⟨some 15, .bslice 26 3 [(.int .i64 0), (.int .i64 0), (.slice none 0 0)] 1 [(0, (.tmp 14))], none⟩,
     ⟨some 16, .call (.func 81) [(.const (.int .i64 8)), (.const (.int .i64 0)), (.tmp 15)], none⟩,
     ⟨some 17, .call (.func 30) [(.tmp 10), (.tmp 11), (.const (.slice none 0 0)), (.tmp 16)], none⟩,
     ⟨some 3, .alloc 26 3 [(.int .i64 0), (.int .i64 0), (.slice none 0 0)], none⟩,
     ⟨none, .store 3 (.tmp 3) (.tmp 17), none⟩]
     [[], [], [], [2], [3, 2], [4], [5, 4], [0, 1, 6, 6], [], [8, 7, 7, 0, 1, 2, 3, 4, 5, 6, 7, 8]]
     [[1], [2], [], [12], [13], [14], [15], [10, 11, 16], [], [3, 17]])
   (.seq
    (.reg [⟨some 18, .call (.func 94) [(.const (.int .i64 7))], none⟩,
      ⟨some 19, .bslice 26 3 [(.int .i64 0), (.int .i64 0), (.slice none 0 0)] 1 [(0, (.tmp 18))], none⟩,
      ⟨some 20, .call (.func 81) [(.const (.int .i64 10)), (.const (.int .i64 1)), (.tmp 19)], none⟩,
      ⟨some 4, .alloc 26 3 [(.int .i64 0), (.int .i64 0), (.slice none 0 0)], none⟩,
      ⟨none, .store 3 (.tmp 4) (.tmp 20), none⟩])
    (.seq
     (.dreg [⟨some 21, .load true 3 (.tmp 1), none⟩,
       ⟨some 22, .mov (.tmp 2), none⟩,
       ⟨some 23, .call (.func 94) [(.const (.int .i64 7))], none⟩,
       ⟨some 24, .build [(.int .i64 0), (.int .i64 0), (.slice none 0 0), (.int .i64 0)] [(0, 3), (3, 1)] [(0, (.tmp 23))], none⟩,
       ⟨some 25, .bslice 43 4 [(.int .i64 0), (.int .i64 0), (.slice none 0 0), (.int .i64 0)] 1 [(0, (.tmp 24))], none⟩,
       ⟨some 26, .load true 3 (.tmp 4), none⟩,
       ⟨some 27, .call (.func 30) [(.tmp 21), (.tmp 22), (.tmp 25), (.tmp 26)], none⟩,
       ⟨some 5, .alloc 26 3 [(.int .i64 0), (.int .i64 0), (.slice none 0 0)], none⟩,
       ⟨none, .store 3 (.tmp 5) (.tmp 27), none⟩]
       [[], [], [], [2], [3], [], [0, 1, 4, 5, 2], [], [7, 6, 6, 0, 1, 2, 3, 4, 5, 6, 7]]
       [[1], [2], [], [23], [24], [4], [21, 22, 25, 26], [], [5, 27]])
     (.seq
      (.dreg [⟨some 28, .load true 3 (.tmp 3), none⟩,
        ⟨some 29, .call (.func 81) [(.const (.int .i64 4)), (.const (.int .i64 0)), (.const (.slice none 0 0))], none⟩,
        ⟨some 30, .bslice 26 3 [(.int .i64 0), (.int .i64 0), (.slice none 0 0)] 1 [(0, (.tmp 29))], none⟩,
        ⟨some 31, .call (.func 81) [(.const (.int .i64 8)), (.const (.int .i64 0)), (.tmp 30)], none⟩,
        ⟨some 32, .call (.func 24) [(.tmp 28), (.tmp 31)], none⟩,
        ⟨some 33, .mov (.tmp 32), none⟩,
        ⟨some 34, .load true 3 (.tmp 5), some (33, true)⟩,
        ⟨some 35, .load true 3 (.tmp 4), some (33, true)⟩,
        ⟨some 36, .call (.func 24) [(.tmp 34), (.tmp 35)], some (33, true)⟩,
        ⟨some 37, .pick (.tmp 33) (.tmp 36) (.const (.bool false)), none⟩,
        ⟨some 0, .mov (.tmp 37), none⟩]
        [[], [], [1], [2, 1], [0, 3, 3], [4, 4], [5], [5], [6, 7, 5, 5], [5, 8], [9, 8, 0, 1, 2, 3, 4, 5, 6, 7, 8, 9]]
        [[3], [], [29], [30], [28, 31], [32], [5, 33], [4, 33], [34, 35, 33], [33, 36], [37]])
      (.ret))))))
theorem fn34 : Fun Try.prog 34 38 ac34 [.tmp 0] := ⟨mixedN, Try.f34, _, Try.func34, rfl, by decide +kernel, rfl, by kernel_rfl, by kernel_rfl⟩
/- glossator/glossatorref2.TypeSize -/
def ac36_l0 : AC := .seq
 (.reg [⟨some 12, .bin .lss .int (.tmp 11) (.tmp 10), none⟩])
 (.seq
  (.cond (.tmp 12)
   (.skip)
   (.exit 0))
  (.seq
   (.block 1
    (.seq
     (.reg [⟨some 13, .iaddr 3 (.tmp 9) (.tmp 11), none⟩,
       ⟨some 14, .load true 3 (.tmp 13), none⟩,
       ⟨some 5, .alloc 26 3 [(.int .i64 0), (.int .i64 0), (.slice none 0 0)], none⟩,
       ⟨none, .store 3 (.tmp 5) (.tmp 14), none⟩])
     (.seq
      (.reg [⟨some 16, .load true 3 (.tmp 5), none⟩,
        ⟨some 17, .call (.func 36) [(.tmp 16)], none⟩,
        ⟨some 15, .mov (.tmp 17), none⟩,
        ⟨some 18, .ext (.tmp 15) 0, none⟩,
        ⟨some 19, .ext (.tmp 15) 1, none⟩,
        ⟨some 6, .mov (.tmp 18), none⟩,
        ⟨some 7, .mov (.tmp 19), none⟩])
      (.seq
       (.reg [⟨some 20, .mov (.tmp 2), none⟩,
         ⟨some 21, .mov (.tmp 6), none⟩,
         ⟨some 22, .bin .add .int (.tmp 20) (.tmp 21), none⟩,
         ⟨some 2, .mov (.tmp 22), none⟩])
       (.reg [⟨some 23, .mov (.tmp 3), none⟩,
         ⟨some 24, .mov (.tmp 7), none⟩,
         ⟨some 25, .bin .add .int (.tmp 24) (.const (.int .i64 1)), none⟩,
         ⟨some 26, .minmax false (.tmp 23) (.tmp 25), none⟩,
         ⟨some 3, .mov (.tmp 26), none⟩])))))
   (.reg [⟨some 27, .bin .add .int (.tmp 11) (.const (.int .i64 1)), none⟩,
     ⟨some 11, .mov (.tmp 27), none⟩])))
def ac36 : AC := .seq
 (.reg [⟨some 1, .box 26 3 (.tmp 0), none⟩,
   ⟨some 2, .mov (.const (.int .i64 0)), none⟩,
   ⟨some 3, .mov (.const (.int .i64 0)), none⟩])
 (.seq
  (.reg [⟨some 2, .mov (.const (.int .i64 1)), none⟩,
    ⟨some 3, .mov (.const (.int .i64 1)), none⟩])
  (.seq
   (.seq
    (.reg [⟨some 8, .faddr 2 (.tmp 1), none⟩,
      ⟨some 9, .load false 1 (.tmp 8), none⟩,
      ⟨some 10, .slen false (.tmp 9), none⟩,
      ⟨some 11, .mov (.const (.int .i64 0)), none⟩])
    (.block 0
     (.loop ac36_l0)))
   (.seq
    (.reg [⟨some 28, .mov (.tmp 2), none⟩,
      ⟨some 29, .mov (.tmp 3), none⟩,
      ⟨some 2, .mov (.tmp 28), none⟩,
      ⟨some 3, .mov (.tmp 29), none⟩])
    (.ret))))
theorem fn36 : Fun Try.prog 36 30 ac36 [.tmp 2, .tmp 3] := ⟨mixedN, Try.f36, _, Try.func36, rfl, by decide +kernel, rfl, by kernel_rfl, by kernel_rfl⟩
/- glossator/glossatorlaw2.projections -/
def ac37_l0 : AC := .seq
 (.reg [⟨some 15, .bin .lss .int (.tmp 14) (.tmp 13), none⟩])
 (.seq
  (.cond (.tmp 15)
   (.skip)
   (.exit 0))
  (.seq
   (.block 1
    (.seq
     (.reg [⟨some 16, .iaddr 3 (.tmp 12) (.tmp 14), none⟩,
       ⟨some 17, .load true 3 (.tmp 16), none⟩,
       ⟨some 5, .alloc 26 3 [(.int .i64 0), (.int .i64 0), (.slice none 0 0)], none⟩,
       ⟨none, .store 3 (.tmp 5) (.tmp 17), none⟩])
     (.reg [⟨some 18, .mov (.tmp 3), none⟩,
       ⟨some 19, .load true 3 (.tmp 5), none⟩,
       ⟨some 20, .call (.func 37) [(.tmp 19)], none⟩,
       ⟨some 21, .bin .add .int (.tmp 18) (.tmp 20), none⟩,
       ⟨some 3, .mov (.tmp 21), none⟩])))
   (.reg [⟨some 22, .bin .add .int (.tmp 14) (.const (.int .i64 1)), none⟩,
     ⟨some 14, .mov (.tmp 22), none⟩])))
def ac37 : AC := .seq
 (.reg [⟨some 1, .box 26 3 (.tmp 0), none⟩,
   ⟨some 2, .mov (.const (.int .i64 0)), none⟩])
 (.seq
  (.reg [⟨some 3, .mov (.const (.int .i64 0)), none⟩])
  (.seq
   (.seq
    (.reg [⟨some 6, .faddr 0 (.tmp 1), none⟩,
      ⟨some 7, .load false 1 (.tmp 6), none⟩,
      ⟨some 8, .bin .eql .int (.tmp 7) (.const (.int .i64 10)), none⟩])
    (.cond (.tmp 8)
     (.reg [⟨some 9, .mov (.tmp 3), none⟩,
       ⟨some 10, .bin .add .int (.tmp 9) (.const (.int .i64 1)), none⟩,
       ⟨some 3, .mov (.tmp 10), none⟩])
     (.skip)))
   (.seq
    (.seq
     (.reg [⟨some 11, .faddr 2 (.tmp 1), none⟩,
       ⟨some 12, .load false 1 (.tmp 11), none⟩,
       ⟨some 13, .slen false (.tmp 12), none⟩,
       ⟨some 14, .mov (.const (.int .i64 0)), none⟩])
     (.block 0
      (.loop ac37_l0)))
    (.seq
     (.reg [⟨some 23, .mov (.tmp 3), none⟩,
       ⟨some 2, .mov (.tmp 23), none⟩])
     (.ret)))))
theorem fn37 : Fun Try.prog 37 24 ac37 [.tmp 2] := ⟨mixedN, Try.f37, _, Try.func37, rfl, by decide +kernel, rfl, by kernel_rfl, by kernel_rfl⟩
/- glossator/glossatorref2.NormalForm -/
def ac38_l0 : AC := .seq
 (.reg [⟨some 26, .bin .lss .int (.tmp 25) (.tmp 24), none⟩])
 (.seq
  (.cond (.tmp 26)
   (.skip)
   (.exit 0))
  (.seq
   (.block 1
    (.seq
     (.reg [⟨some 27, .iaddr 3 (.tmp 23) (.tmp 25), none⟩,
       ⟨some 28, .load true 3 (.tmp 27), none⟩,
       ⟨some 14, .alloc 26 3 [(.int .i64 0), (.int .i64 0), (.slice none 0 0)], none⟩,
       ⟨none, .store 3 (.tmp 14) (.tmp 28), none⟩])
     (.seq
      (.reg [⟨some 30, .load true 3 (.tmp 5), none⟩,
        ⟨some 31, .mov (.tmp 1), none⟩,
        ⟨some 32, .mov (.tmp 2), none⟩,
        ⟨some 33, .load true 3 (.tmp 14), none⟩,
        ⟨some 34, .mov (.tmp 4), none⟩,
        ⟨some 35, .call (.func 38) [(.tmp 30), (.tmp 31), (.tmp 32), (.tmp 33), (.tmp 34)], none⟩,
        ⟨some 29, .mov (.tmp 35), none⟩,
        ⟨some 36, .ext (.tmp 29) 0, none⟩,
        ⟨some 37, .ext (.tmp 29) 1, none⟩,
        ⟨some 15, .alloc 26 3 [(.int .i64 0), (.int .i64 0), (.slice none 0 0)], none⟩,
        ⟨none, .store 3 (.tmp 15) (.tmp 36), none⟩,
        ⟨some 16, .mov (.tmp 37), none⟩])
      (.seq
       (.seq
        (.reg [⟨some 38, .mov (.tmp 16), none⟩,
          ⟨some 39, .un .not (.tmp 38), none⟩])
        (.cond (.tmp 39)
         (.seq
          (.reg [⟨some 40, .load true 3 (.tmp 15), none⟩,
            ⟨none, .store 3 (.tmp 10) (.tmp 40), none⟩,
            ⟨some 11, .mov (.const (.bool false)), none⟩])
          (.ret))
         (.skip)))
       (.reg [⟨some 41, .mov (.tmp 12), none⟩,
         ⟨some 42, .load true 3 (.tmp 15), none⟩,
         ⟨some 43, .bslice 26 3 [(.int .i64 0), (.int .i64 0), (.slice none 0 0)] 1 [(0, (.tmp 42))], none⟩,
         ⟨some 44, .app 26 3 (.tmp 41) (.tmp 43), none⟩,
         ⟨some 12, .mov (.tmp 44), none⟩])))))
   (.reg [⟨some 45, .bin .add .int (.tmp 25) (.const (.int .i64 1)), none⟩,
     ⟨some 25, .mov (.tmp 45), none⟩])))
def ac38_l1 : AC := .seq
 (.reg [⟨some 122, .bin .lss .int (.tmp 121) (.tmp 120), none⟩])
 (.seq
  (.cond (.tmp 122)
   (.skip)
   (.exit 2))
  (.seq
   (.block 3
    (.seq
     (.reg [⟨some 123, .mov (.tmp 121), none⟩,
       ⟨some 124, .iaddr 6 (.tmp 119) (.tmp 121), none⟩,
       ⟨some 125, .load true 6 (.tmp 124), none⟩,
       ⟨some 21, .alloc 125 6 [(.int .i64 0), (.int .i64 0), (.int .i64 0), (.int .i64 0), (.string ⟨#[]⟩), (.bool false)], none⟩,
       ⟨some 20, .mov (.tmp 123), none⟩,
       ⟨none, .store 6 (.tmp 21) (.tmp 125), none⟩])
     (.seq
      (.dreg [⟨some 126, .faddr 0 (.tmp 21), none⟩,
        ⟨some 127, .load false 1 (.tmp 126), none⟩,
        ⟨some 128, .bin .eql .int (.tmp 127) (.const (.int .i64 13)), none⟩,
        ⟨some 129, .mov (.tmp 128), none⟩,
        ⟨some 130, .faddr 3 (.tmp 21), some (129, true)⟩,
        ⟨some 131, .load false 1 (.tmp 130), some (129, true)⟩,
        ⟨some 132, .faddr 4 (.tmp 18), some (129, true)⟩,
        ⟨some 133, .load false 1 (.tmp 132), some (129, true)⟩,
        ⟨some 134, .bin .eql .int (.tmp 131) (.tmp 133), some (129, true)⟩,
        ⟨some 135, .pick (.tmp 129) (.tmp 134) (.const (.bool false)), none⟩,
        ⟨some 136, .mov (.tmp 135), none⟩,
        ⟨some 137, .faddr 4 (.tmp 21), some (136, true)⟩,
        ⟨some 138, .load false 1 (.tmp 137), some (136, true)⟩,
        ⟨some 139, .faddr 0 (.tmp 5), some (136, true)⟩,
        ⟨some 140, .load false 1 (.tmp 139), some (136, true)⟩,
        ⟨some 141, .faddr 1 (.tmp 8), some (136, true)⟩,
        ⟨some 142, .load false 1 (.tmp 141), some (136, true)⟩,
        ⟨some 143, .iaddr 6 (.tmp 140) (.tmp 142), some (136, true)⟩,
        ⟨some 144, .faddr 4 (.tmp 143), some (136, true)⟩,
        ⟨some 145, .load false 1 (.tmp 144), some (136, true)⟩,
        ⟨some 146, .bin .eql .str (.tmp 138) (.tmp 145), some (136, true)⟩,
        ⟨some 147, .pick (.tmp 136) (.tmp 146) (.const (.bool false)), none⟩]
        [[], [0], [1], [2], [3], [4, 3], [3], [6, 3], [5, 7, 3], [3, 8], [9, 3], [10], [11, 10], [10], [13, 10], [10], [15, 10], [14, 16, 10], [17, 10], [18, 10], [12, 19, 10], [10, 20]]
        [[21], [126], [127], [128], [21, 129], [130, 129], [18, 129], [132, 129], [131, 133, 129], [129, 134], [135], [21, 136], [137, 136], [5, 136], [139, 136], [8, 136], [141, 136], [140, 142, 136], [143, 136], [144, 136], [138, 145, 136], [136, 146]])
      (.cond (.tmp 147)
       (.seq
        (.seq
         (.reg [⟨some 148, .mov (.tmp 4), none⟩,
           ⟨some 149, .bin .eql .int (.tmp 148) (.const (.int .i64 8)), none⟩])
         (.cond (.tmp 149)
          (.seq
           (.reg [⟨some 150, .build [(.int .i64 0), (.int .i64 0), (.slice none 0 0)] [(0, 1), (1, 1), (2, 1)] [], none⟩,
             ⟨none, .store 3 (.tmp 10) (.tmp 150), none⟩,
             ⟨some 11, .mov (.const (.bool true)), none⟩])
           (.ret))
          (.skip)))
        (.seq
         (.dreg [⟨some 151, .load true 3 (.tmp 5), none⟩,
           ⟨some 152, .mov (.tmp 1), none⟩,
           ⟨some 153, .mov (.tmp 2), none⟩,
           ⟨some 154, .mov (.tmp 1), none⟩,
           ⟨some 155, .mov (.tmp 20), none⟩,
           ⟨some 156, .iaddr 7 (.tmp 154) (.tmp 155), none⟩,
           ⟨some 157, .faddr 1 (.tmp 156), none⟩,
           ⟨some 158, .load true 3 (.tmp 157), none⟩,
           ⟨some 159, .mov (.tmp 1), none⟩,
           ⟨some 160, .faddr 4 (.tmp 18), none⟩,
           ⟨some 161, .load false 1 (.tmp 160), none⟩,
           ⟨some 162, .iaddr 7 (.tmp 159) (.tmp 161), none⟩,
           ⟨some 163, .faddr 0 (.tmp 162), none⟩,
           ⟨some 164, .load false 1 (.tmp 163), none⟩,
           ⟨some 165, .faddr 6 (.tmp 18), none⟩,
           ⟨some 166, .load false 1 (.tmp 165), none⟩,
           ⟨some 167, .call (.func 86) [(.tmp 158), (.tmp 164), (.tmp 166)], none⟩,
           ⟨some 168, .mov (.tmp 4), none⟩,
           ⟨some 169, .bin .add .int (.tmp 168) (.const (.int .i64 1)), none⟩,
           ⟨some 170, .call (.func 38) [(.tmp 151), (.tmp 152), (.tmp 153), (.tmp 167), (.tmp 169)], none⟩,
           ⟨some 171, .ext (.tmp 170) 0, none⟩,
           ⟨some 172, .ext (.tmp 170) 1, none⟩,
           ⟨none, .store 3 (.tmp 10) (.tmp 171), none⟩,
           ⟨some 11, .mov (.tmp 172), none⟩]
           [[], [], [], [], [], [3, 4], [5], [6], [], [], [9], [8, 10], [11], [12], [], [14], [7, 13, 15], [], [17], [0, 1, 2, 16, 18, 16], [19], [19], [20, 19, 0, 1, 2, 3, 4, 5, 6, 7, 8, 9, 10, 11, 12, 13, 14, 15, 16, 17, 18, 19, 20, 21], [21, 22, 0, 1, 2, 3, 4, 5, 6, 7, 8, 9, 10, 11, 12, 13, 14, 15, 16, 17, 18, 19, 20, 21, 22]]
           [[5], [1], [2], [1], [20], [154, 155], [156], [157], [1], [18], [160], [159, 161], [162], [163], [18], [165], [158, 164, 166], [4], [168], [151, 152, 153, 167, 169], [170], [170], [10, 171], [172]])
         (.ret)))
       (.skip)))))
   (.reg [⟨some 173, .bin .add .int (.tmp 121) (.const (.int .i64 1)), none⟩,
     ⟨some 121, .mov (.tmp 173), none⟩])))
def ac38 : AC := .seq
 (.reg [⟨some 5, .box 50 3 (.tmp 0), none⟩,
   ⟨some 8, .box 26 3 (.tmp 3), none⟩,
   ⟨some 10, .alloc 26 3 [(.int .i64 0), (.int .i64 0), (.slice none 0 0)], none⟩,
   ⟨some 11, .mov (.const (.bool false)), none⟩])
 (.seq
  (.reg [⟨some 12, .mov (.const (.slice none 0 0)), none⟩])
  (.seq
   (.seq
    (.reg [⟨some 22, .faddr 2 (.tmp 8), none⟩,
      ⟨some 23, .load false 1 (.tmp 22), none⟩,
      ⟨some 24, .slen false (.tmp 23), none⟩,
      ⟨some 25, .mov (.const (.int .i64 0)), none⟩])
    (.block 0
     (.loop ac38_l0)))
   (.seq
    (.reg [⟨some 46, .mov (.tmp 12), none⟩,
      ⟨some 47, .faddr 2 (.tmp 8), none⟩,
      ⟨none, .store 1 (.tmp 47) (.tmp 46), none⟩])
    (.seq
     (.seq
      (.reg [⟨some 48, .faddr 0 (.tmp 8), none⟩,
        ⟨some 49, .load false 1 (.tmp 48), none⟩,
        ⟨some 50, .bin .neq .int (.tmp 49) (.const (.int .i64 10)), none⟩])
      (.cond (.tmp 50)
       (.seq
        (.reg [⟨some 51, .load true 3 (.tmp 8), none⟩,
          ⟨none, .store 3 (.tmp 10) (.tmp 51), none⟩,
          ⟨some 11, .mov (.const (.bool true)), none⟩])
        (.ret))
       (.skip)))
     (.seq
      (.seq
       (.reg [⟨some 52, .faddr 1 (.tmp 8), none⟩,
         ⟨some 53, .load false 1 (.tmp 52), none⟩,
         ⟨some 54, .faddr 0 (.tmp 5), none⟩,
         ⟨some 55, .load false 1 (.tmp 54), none⟩,
         ⟨some 56, .slen false (.tmp 55), none⟩,
         ⟨some 57, .bin .sub .int (.tmp 56) (.const (.int .i64 1)), none⟩,
         ⟨some 58, .call (.func 95) [(.tmp 53), (.const (.int .i64 0)), (.tmp 57)], none⟩,
         ⟨some 59, .un .not (.tmp 58), none⟩,
         ⟨some 60, .mov (.tmp 59), none⟩,
         ⟨some 61, .faddr 0 (.tmp 5), some (60, false)⟩,
         ⟨some 62, .load false 1 (.tmp 61), some (60, false)⟩,
         ⟨some 63, .faddr 1 (.tmp 8), some (60, false)⟩,
         ⟨some 64, .load false 1 (.tmp 63), some (60, false)⟩,
         ⟨some 65, .iaddr 6 (.tmp 62) (.tmp 64), some (60, false)⟩,
         ⟨some 66, .faddr 0 (.tmp 65), some (60, false)⟩,
         ⟨some 67, .load false 1 (.tmp 66), some (60, false)⟩,
         ⟨some 68, .bin .neq .int (.tmp 67) (.const (.int .i64 13)), some (60, false)⟩,
         ⟨some 69, .pick (.tmp 60) (.const (.bool true)) (.tmp 68), none⟩,
         ⟨some 70, .mov (.tmp 69), none⟩,
         ⟨some 71, .mov (.tmp 12), some (70, false)⟩,
         ⟨some 72, .slen false (.tmp 71), some (70, false)⟩,
         ⟨some 73, .bin .neq .int (.tmp 72) (.const (.int .i64 1)), some (70, false)⟩,
         ⟨some 74, .pick (.tmp 70) (.const (.bool true)) (.tmp 73), none⟩])
       (.cond (.tmp 74)
        (.seq
         (.reg [⟨some 75, .load true 3 (.tmp 8), none⟩,
           ⟨none, .store 3 (.tmp 10) (.tmp 75), none⟩,
           ⟨some 11, .mov (.const (.bool false)), none⟩])
         (.ret))
        (.skip)))
      (.seq
       (.reg [⟨some 76, .faddr 0 (.tmp 5), none⟩,
         ⟨some 77, .load false 1 (.tmp 76), none⟩,
         ⟨some 78, .faddr 1 (.tmp 8), none⟩,
         ⟨some 79, .load false 1 (.tmp 78), none⟩,
         ⟨some 80, .iaddr 6 (.tmp 77) (.tmp 79), none⟩,
         ⟨some 81, .faddr 3 (.tmp 80), none⟩,
         ⟨some 82, .load false 1 (.tmp 81), none⟩,
         ⟨some 17, .mov (.tmp 82), none⟩])
       (.seq
        (.seq
         (.reg [⟨some 83, .mov (.tmp 17), none⟩,
           ⟨some 84, .faddr 0 (.tmp 5), none⟩,
           ⟨some 85, .load false 1 (.tmp 84), none⟩,
           ⟨some 86, .slen false (.tmp 85), none⟩,
           ⟨some 87, .bin .sub .int (.tmp 86) (.const (.int .i64 1)), none⟩,
           ⟨some 88, .call (.func 95) [(.tmp 83), (.const (.int .i64 0)), (.tmp 87)], none⟩,
           ⟨some 89, .un .not (.tmp 88), none⟩,
           ⟨some 90, .mov (.tmp 89), none⟩,
           ⟨some 91, .faddr 0 (.tmp 5), some (90, false)⟩,
           ⟨some 92, .load false 1 (.tmp 91), some (90, false)⟩,
           ⟨some 93, .mov (.tmp 17), some (90, false)⟩,
           ⟨some 94, .iaddr 6 (.tmp 92) (.tmp 93), some (90, false)⟩,
           ⟨some 95, .faddr 0 (.tmp 94), some (90, false)⟩,
           ⟨some 96, .load false 1 (.tmp 95), some (90, false)⟩,
           ⟨some 97, .bin .neq .int (.tmp 96) (.const (.int .i64 5)), some (90, false)⟩,
           ⟨some 98, .pick (.tmp 90) (.const (.bool true)) (.tmp 97), none⟩])
         (.cond (.tmp 98)
          (.seq
           (.reg [⟨some 99, .load true 3 (.tmp 8), none⟩,
             ⟨none, .store 3 (.tmp 10) (.tmp 99), none⟩,
             ⟨some 11, .mov (.const (.bool false)), none⟩])
           (.ret))
          (.skip)))
        (.seq
         (.reg [⟨some 101, .mov (.tmp 1), none⟩,
           ⟨some 102, .mov (.tmp 2), none⟩,
           ⟨some 103, .mov (.tmp 12), none⟩,
           ⟨some 104, .iaddr 3 (.tmp 103) (.const (.int .i64 0)), none⟩,
           ⟨some 105, .load true 3 (.tmp 104), none⟩,
           ⟨some 106, .mov (.tmp 17), none⟩,
           ⟨some 107, .call (.func 27) [(.tmp 101), (.tmp 102), (.tmp 105), (.tmp 106), (.const (.int .i64 8))], none⟩,
           ⟨some 100, .mov (.tmp 107), none⟩,
           ⟨some 108, .ext (.tmp 100) 0, none⟩,
           ⟨some 109, .ext (.tmp 100) 1, none⟩,
           ⟨some 18, .alloc 30 8 [(.int .i64 0), (.int .i64 0), (.slice none 0 0), (.int .i64 0), (.int .i64 0), (.int .i64 0), (.slice none 0 0), (.slice none 0 0)], none⟩,
           ⟨none, .store 8 (.tmp 18) (.tmp 108), none⟩,
           ⟨some 19, .mov (.tmp 109), none⟩])
         (.seq
          (.seq
           (.reg [⟨some 110, .mov (.tmp 19), none⟩,
             ⟨some 111, .un .not (.tmp 110), none⟩,
             ⟨some 112, .mov (.tmp 111), none⟩,
             ⟨some 113, .faddr 4 (.tmp 18), some (112, false)⟩,
             ⟨some 114, .load false 1 (.tmp 113), some (112, false)⟩,
             ⟨some 115, .bin .lss .int (.tmp 114) (.const (.int .i64 0)), some (112, false)⟩,
             ⟨some 116, .pick (.tmp 112) (.const (.bool true)) (.tmp 115), none⟩])
           (.cond (.tmp 116)
            (.seq
             (.reg [⟨some 117, .load true 3 (.tmp 8), none⟩,
               ⟨none, .store 3 (.tmp 10) (.tmp 117), none⟩,
               ⟨some 11, .mov (.const (.bool true)), none⟩])
             (.ret))
            (.skip)))
          (.seq
           (.seq
            (.reg [⟨some 118, .faddr 0 (.tmp 5), none⟩,
              ⟨some 119, .load false 1 (.tmp 118), none⟩,
              ⟨some 120, .slen false (.tmp 119), none⟩,
              ⟨some 121, .mov (.const (.int .i64 0)), none⟩])
            (.block 2
             (.loop ac38_l1)))
           (.seq
            (.reg [⟨some 174, .build [(.int .i64 0), (.int .i64 0), (.slice none 0 0)] [(0, 1), (1, 1), (2, 1)] [], none⟩,
              ⟨none, .store 3 (.tmp 10) (.tmp 174), none⟩,
              ⟨some 11, .mov (.const (.bool true)), none⟩])
            (.ret))))))))))))
theorem fn38 : Fun Try.prog 38 175 ac38 [.cell 10 3 true, .tmp 11] := ⟨mixedN, Try.f38, _, Try.func38, rfl, by decide +kernel, rfl, by kernel_rfl, by kernel_rfl⟩
/- glossator/glossatorref2.TypeError -/
def ac39 : AC := .seq
 (.reg [⟨some 1, .box 26 3 (.tmp 0), none⟩,
   ⟨some 2, .mov (.const (.int .i64 0)), none⟩])
 (.seq
  (.reg [⟨some 6, .load true 3 (.tmp 1), none⟩,
    ⟨some 7, .call (.func 36) [(.tmp 6)], none⟩,
    ⟨some 5, .mov (.tmp 7), none⟩,
    ⟨some 8, .ext (.tmp 5) 0, none⟩,
    ⟨some 9, .ext (.tmp 5) 1, none⟩,
    ⟨some 3, .mov (.tmp 8), none⟩,
    ⟨some 4, .mov (.tmp 9), none⟩])
  (.seq
   (.seq
    (.reg [⟨some 10, .mov (.tmp 3), none⟩,
      ⟨some 11, .bin .gtr .int (.tmp 10) (.const (.int .i64 100)), none⟩,
      ⟨some 12, .mov (.tmp 11), none⟩,
      ⟨some 13, .mov (.tmp 4), some (12, false)⟩,
      ⟨some 14, .bin .gtr .int (.tmp 13) (.const (.int .i64 12)), some (12, false)⟩,
      ⟨some 15, .pick (.tmp 12) (.const (.bool true)) (.tmp 14), none⟩])
    (.cond (.tmp 15)
     (.seq
      (.reg [⟨some 2, .mov (.const (.int .i64 2)), none⟩])
      (.ret))
     (.skip)))
   (.seq
    (.seq
     (.reg [⟨some 16, .load true 3 (.tmp 1), none⟩,
       ⟨some 17, .call (.func 96) [(.tmp 16)], none⟩,
       ⟨some 18, .un .not (.tmp 17), none⟩])
     (.cond (.tmp 18)
      (.seq
       (.reg [⟨some 2, .mov (.const (.int .i64 3)), none⟩])
       (.ret))
      (.skip)))
    (.seq
     (.reg [⟨some 2, .mov (.const (.int .i64 0)), none⟩])
     (.ret)))))
theorem fn39 : Fun Try.prog 39 19 ac39 [.tmp 2] := ⟨mixedN, Try.f39, _, Try.func39, rfl, by decide +kernel, rfl, by kernel_rfl, by kernel_rfl⟩
/- glossator/glossatorkeep2.iterSymbols -/
def ac87 : AC := .seq
 (.reg [⟨some 0, .alloc 50 3 [(.slice none 0 0), (.slice none 0 0), (.slice none 0 0)], none⟩,
   ⟨some 1, .mov (.const (.slice none 0 0)), none⟩])
 (.seq
  (.reg [⟨some 4, .build [(.int .i64 0), (.int .i64 0), (.int .i64 0), (.int .i64 0), (.string ⟨#[]⟩), (.bool false)] [(0, 1), (1, 1), (2, 1), (3, 1), (4, 1), (5, 1)] [(0, (.const (.int .i64 5))), (3, (.const (.int .i64 (-1)))), (4, (.const (.string ⟨#[73, 116, 101, 114]⟩)))], none⟩,
    ⟨some 5, .build [(.int .i64 0), (.int .i64 0), (.int .i64 0), (.int .i64 0), (.string ⟨#[]⟩), (.bool false)] [(0, 1), (1, 1), (2, 1), (3, 1), (4, 1), (5, 1)] [(0, (.const (.int .i64 13))), (4, (.const (.string ⟨#[73, 116, 101, 109]⟩)))], none⟩,
    ⟨some 6, .build [(.int .i64 0), (.int .i64 0), (.int .i64 0), (.int .i64 0), (.string ⟨#[]⟩), (.bool false)] [(0, 1), (1, 1), (2, 1), (3, 1), (4, 1), (5, 1)] [(0, (.const (.int .i64 6))), (3, (.const (.int .i64 (-1))))], none⟩,
    ⟨some 7, .build [(.int .i64 0), (.int .i64 0), (.int .i64 0), (.int .i64 0), (.string ⟨#[]⟩), (.bool false)] [(0, 1), (1, 1), (2, 1), (3, 1), (4, 1), (5, 1)] [(0, (.const (.int .i64 13))), (3, (.const (.int .i64 2))), (4, (.const (.string ⟨#[73, 116, 101, 109]⟩)))], none⟩,
    ⟨some 8, .bslice 125 6 [(.int .i64 0), (.int .i64 0), (.int .i64 0), (.int .i64 0), (.string ⟨#[]⟩), (.bool false)] 4 [(0, (.tmp 4)), (1, (.tmp 5)), (2, (.tmp 6)), (3, (.tmp 7))], none⟩,
    ⟨some 9, .build [(.slice none 0 0), (.slice none 0 0), (.slice none 0 0)] [(0, 1), (1, 1), (2, 1)] [(0, (.tmp 8))], none⟩,
    ⟨some 2, .alloc 50 3 [(.slice none 0 0), (.slice none 0 0), (.slice none 0 0)], none⟩,
    ⟨none, .store 3 (.tmp 2) (.tmp 9), none⟩])
  (.seq
   (.reg [⟨some 10, .build [(.slice none 0 0), (.int .i64 0), (.int .i64 0), (.slice none 0 0), (.int .i64 0), (.slice none 0 0), (.slice none 0 0)] [(0, 1), (1, 3), (4, 1), (5, 1), (6, 1)] [(2, (.const (.int .i64 (-1))))], none⟩,
     ⟨some 11, .build [(.slice none 0 0), (.int .i64 0), (.int .i64 0), (.slice none 0 0), (.int .i64 0), (.slice none 0 0), (.slice none 0 0)] [(0, 1), (1, 3), (4, 1), (5, 1), (6, 1)] [(2, (.const (.int .i64 (-1))))], none⟩,
     ⟨some 12, .call (.func 75) [], none⟩,
     ⟨some 13, .build [(.slice none 0 0), (.int .i64 0), (.int .i64 0), (.slice none 0 0), (.int .i64 0), (.slice none 0 0), (.slice none 0 0)] [(0, 1), (1, 3), (4, 1), (5, 1), (6, 1)] [(1, (.tmp 12))], none⟩,
     ⟨some 14, .call (.func 74) [(.const (.int .i64 4)), (.const (.int .i64 0)), (.const (.slice none 0 0))], none⟩,
     ⟨some 15, .build [(.slice none 0 0), (.int .i64 0), (.int .i64 0), (.slice none 0 0), (.int .i64 0), (.slice none 0 0), (.slice none 0 0)] [(0, 1), (1, 3), (4, 1), (5, 1), (6, 1)] [(2, (.const (.int .i64 (-1)))), (1, (.tmp 14))], none⟩,
     ⟨some 16, .bslice 40 7 [(.slice none 0 0), (.int .i64 0), (.int .i64 0), (.slice none 0 0), (.int .i64 0), (.slice none 0 0), (.slice none 0 0)] 4 [(0, (.tmp 10)), (1, (.tmp 11)), (2, (.tmp 13)), (3, (.tmp 15))], none⟩,
     ⟨some 3, .mov (.tmp 16), none⟩])
   (.seq
    (.reg [⟨some 17, .load true 3 (.tmp 2), none⟩,
      ⟨some 18, .mov (.tmp 3), none⟩,
      ⟨none, .store 3 (.tmp 0) (.tmp 17), none⟩,
      ⟨some 1, .mov (.tmp 18), none⟩])
    (.ret))))
theorem fn87 : Fun Try.prog 87 19 ac87 [.cell 0 3 true, .tmp 1] := ⟨mixedN, Try.f87, _, Try.func87, rfl, by decide +kernel, rfl, by kernel_rfl, by kernel_rfl⟩
/- (*glossator/assoctypes.normalizer).normalize -/
def ac89_l0 : AC := .seq
 (.reg [⟨some 19, .bin .lss .int (.tmp 18) (.tmp 17), none⟩])
 (.seq
  (.cond (.tmp 19)
   (.skip)
   (.exit 0))
  (.seq
   (.block 1
    (.seq
     (.reg [⟨some 20, .iaddr 3 (.tmp 16) (.tmp 18), none⟩,
       ⟨some 21, .load true 3 (.tmp 20), none⟩,
       ⟨some 9, .alloc 26 3 [(.int .i64 0), (.int .i64 0), (.slice none 0 0)], none⟩,
       ⟨none, .store 3 (.tmp 9) (.tmp 21), none⟩])
     (.dreg [⟨some 22, .faddr 2 (.tmp 7), none⟩,
       ⟨some 23, .load false 1 (.tmp 22), none⟩,
       ⟨some 24, .mov (.tmp 0), none⟩,
       ⟨some 25, .load true 3 (.tmp 9), none⟩,
       ⟨some 26, .mov (.tmp 2), none⟩,
       ⟨some 27, .call (.func 89) [(.tmp 24), (.tmp 25), (.tmp 26)], none⟩,
       ⟨some 28, .bslice 26 3 [(.int .i64 0), (.int .i64 0), (.slice none 0 0)] 1 [(0, (.tmp 27))], none⟩,
       ⟨some 29, .app 26 3 (.tmp 23) (.tmp 28), none⟩,
       ⟨some 30, .faddr 2 (.tmp 7), none⟩,
       ⟨none, .store 1 (.tmp 30) (.tmp 29), none⟩]
       [[], [0], [], [], [], [2, 3, 4], [5], [1, 6, 5], [0, 1, 2, 3, 4, 5, 6, 7], [8, 7, 7, 0, 1, 2, 3, 4, 5, 6, 7]]
       [[7], [22], [0], [9], [2], [24, 25, 26], [27], [23, 28], [7], [30, 29]])))
   (.reg [⟨some 31, .bin .add .int (.tmp 18) (.const (.int .i64 1)), none⟩,
     ⟨some 18, .mov (.tmp 31), none⟩])))
def ac89 : AC := .seq
 (.reg [⟨some 4, .box 26 3 (.tmp 1), none⟩,
   ⟨some 6, .alloc 26 3 [(.int .i64 0), (.int .i64 0), (.slice none 0 0)], none⟩])
 (.seq
  (.reg [⟨some 10, .faddr 0 (.tmp 4), none⟩,
    ⟨some 11, .load false 1 (.tmp 10), none⟩,
    ⟨some 12, .faddr 1 (.tmp 4), none⟩,
    ⟨some 13, .load false 1 (.tmp 12), none⟩,
    ⟨some 14, .build [(.int .i64 0), (.int .i64 0), (.slice none 0 0)] [(0, 1), (1, 1), (2, 1)] [(0, (.tmp 11)), (1, (.tmp 13))], none⟩,
    ⟨some 7, .alloc 26 3 [(.int .i64 0), (.int .i64 0), (.slice none 0 0)], none⟩,
    ⟨none, .store 3 (.tmp 7) (.tmp 14), none⟩])
  (.seq
   (.seq
    (.reg [⟨some 15, .faddr 2 (.tmp 4), none⟩,
      ⟨some 16, .load false 1 (.tmp 15), none⟩,
      ⟨some 17, .slen false (.tmp 16), none⟩,
      ⟨some 18, .mov (.const (.int .i64 0)), none⟩])
    (.block 0
     (.loop ac89_l0)))
   (.seq
    (.seq
     (.reg [⟨some 32, .faddr 0 (.tmp 4), none⟩,
       ⟨some 33, .load false 1 (.tmp 32), none⟩,
       ⟨some 34, .bin .eql .int (.tmp 33) (.const (.int .i64 10)), none⟩])
     (.cond (.tmp 34)
      (.seq
       (.reg [⟨some 35, .mov (.tmp 0), none⟩,
         ⟨some 36, .load true 3 (.tmp 7), none⟩,
         ⟨some 37, .mov (.tmp 2), none⟩,
         ⟨some 38, .call (.func 150) [(.tmp 35), (.tmp 36), (.tmp 37)], none⟩,
         ⟨none, .store 3 (.tmp 6) (.tmp 38), none⟩])
       (.ret))
      (.skip)))
    (.seq
     (.reg [⟨some 39, .load true 3 (.tmp 7), none⟩,
       ⟨none, .store 3 (.tmp 6) (.tmp 39), none⟩])
     (.ret)))))
theorem fn89 : Fun Try.prog 89 40 ac89 [.cell 6 3 true] := ⟨mixedN, Try.f89, _, Try.func89, rfl, by decide +kernel, rfl, by kernel_rfl, by kernel_rfl⟩
/- glossator/types.measure -/
def ac91_l0 : AC := .seq
 (.reg [⟨some 14, .bin .lss .int (.tmp 13) (.tmp 12), none⟩])
 (.seq
  (.cond (.tmp 14)
   (.skip)
   (.exit 0))
  (.seq
   (.block 1
    (.seq
     (.reg [⟨some 15, .iaddr 3 (.tmp 11) (.tmp 13), none⟩,
       ⟨some 16, .load true 3 (.tmp 15), none⟩,
       ⟨some 7, .alloc 26 3 [(.int .i64 0), (.int .i64 0), (.slice none 0 0)], none⟩,
       ⟨none, .store 3 (.tmp 7) (.tmp 16), none⟩])
     (.seq
      (.seq
       (.reg [⟨some 17, .mov (.tmp 4), none⟩,
         ⟨some 18, .mov (.tmp 1), none⟩,
         ⟨some 19, .bin .gtr .int (.tmp 17) (.tmp 18), none⟩])
       (.cond (.tmp 19)
        (.exit 0)
        (.skip)))
      (.seq
       (.reg [⟨some 21, .load true 3 (.tmp 7), none⟩,
         ⟨some 22, .mov (.tmp 1), none⟩,
         ⟨some 23, .mov (.tmp 4), none⟩,
         ⟨some 24, .bin .sub .int (.tmp 22) (.tmp 23), none⟩,
         ⟨some 25, .call (.func 91) [(.tmp 21), (.tmp 24)], none⟩,
         ⟨some 20, .mov (.tmp 25), none⟩,
         ⟨some 26, .ext (.tmp 20) 0, none⟩,
         ⟨some 27, .ext (.tmp 20) 1, none⟩,
         ⟨some 8, .mov (.tmp 26), none⟩,
         ⟨some 9, .mov (.tmp 27), none⟩])
       (.reg [⟨some 28, .mov (.tmp 4), none⟩,
         ⟨some 29, .mov (.tmp 8), none⟩,
         ⟨some 30, .bin .add .int (.tmp 28) (.tmp 29), none⟩,
         ⟨some 31, .mov (.tmp 5), none⟩,
         ⟨some 32, .mov (.tmp 9), none⟩,
         ⟨some 33, .minmax false (.tmp 31) (.tmp 32), none⟩,
         ⟨some 4, .mov (.tmp 30), none⟩,
         ⟨some 5, .mov (.tmp 33), none⟩])))))
   (.reg [⟨some 34, .bin .add .int (.tmp 13) (.const (.int .i64 1)), none⟩,
     ⟨some 13, .mov (.tmp 34), none⟩])))
def ac91 : AC := .seq
 (.reg [⟨some 2, .box 26 3 (.tmp 0), none⟩,
   ⟨some 4, .mov (.const (.int .i64 0)), none⟩,
   ⟨some 5, .mov (.const (.int .i64 0)), none⟩])
 (.seq
  (.reg [⟨some 4, .mov (.const (.int .i64 1)), none⟩])
  (.seq
   (.seq
    (.reg [⟨some 10, .faddr 2 (.tmp 2), none⟩,
      ⟨some 11, .load false 1 (.tmp 10), none⟩,
      ⟨some 12, .slen false (.tmp 11), none⟩,
      ⟨some 13, .mov (.const (.int .i64 0)), none⟩])
    (.block 0
     (.loop ac91_l0)))
   (.seq
    (.reg [⟨some 35, .mov (.tmp 4), none⟩,
      ⟨some 36, .mov (.tmp 5), none⟩,
      ⟨some 37, .bin .add .int (.tmp 36) (.const (.int .i64 1)), none⟩,
      ⟨some 4, .mov (.tmp 35), none⟩,
      ⟨some 5, .mov (.tmp 37), none⟩])
    (.ret))))
theorem fn91 : Fun Try.prog 91 38 ac91 [.tmp 4, .tmp 5] := ⟨mixedN, Try.f91, _, Try.func91, rfl, by decide +kernel, rfl, by kernel_rfl, by kernel_rfl⟩
/- glossator/types.wellFormed -/
def ac92 : AC := .seq
 (.reg [⟨some 1, .box 26 3 (.tmp 0), none⟩,
   ⟨some 2, .mov (.const (.bool false)), none⟩])
 (.seq
  (.reg [⟨some 3, .load true 3 (.tmp 1), none⟩,
    ⟨some 4, .call (.func 152) [(.tmp 3)], none⟩,
    ⟨some 5, .mov (.tmp 4), none⟩,
    ⟨some 6, .faddr 2 (.tmp 1), some (5, true)⟩,
    ⟨some 7, .load false 1 (.tmp 6), some (5, true)⟩,
    ⟨some 8, .call (.func 90) [(.tmp 7), (.func 153)], some (5, true)⟩,
    ⟨some 9, .un .not (.tmp 8), some (5, true)⟩,
    ⟨some 10, .pick (.tmp 5) (.tmp 9) (.const (.bool false)), none⟩,
    ⟨some 2, .mov (.tmp 10), none⟩])
  (.ret))
theorem fn92 : Fun Try.prog 92 11 ac92 [.tmp 2] := ⟨mixedN, Try.f92, _, Try.func92, rfl, by decide +kernel, rfl, by kernel_rfl, by kernel_rfl⟩
/- glossator/glossatorlaw2.iterSymbols -/
def ac93 : AC := .seq
 (.reg [⟨some 0, .alloc 50 3 [(.slice none 0 0), (.slice none 0 0), (.slice none 0 0)], none⟩,
   ⟨some 1, .mov (.const (.slice none 0 0)), none⟩])
 (.seq
  (.reg [⟨some 4, .build [(.int .i64 0), (.int .i64 0), (.int .i64 0), (.int .i64 0), (.string ⟨#[]⟩), (.bool false)] [(0, 1), (1, 1), (2, 1), (3, 1), (4, 1), (5, 1)] [(0, (.const (.int .i64 5))), (3, (.const (.int .i64 (-1)))), (4, (.const (.string ⟨#[73, 116, 101, 114]⟩)))], none⟩,
    ⟨some 5, .build [(.int .i64 0), (.int .i64 0), (.int .i64 0), (.int .i64 0), (.string ⟨#[]⟩), (.bool false)] [(0, 1), (1, 1), (2, 1), (3, 1), (4, 1), (5, 1)] [(0, (.const (.int .i64 13))), (4, (.const (.string ⟨#[73, 116, 101, 109]⟩)))], none⟩,
    ⟨some 6, .build [(.int .i64 0), (.int .i64 0), (.int .i64 0), (.int .i64 0), (.string ⟨#[]⟩), (.bool false)] [(0, 1), (1, 1), (2, 1), (3, 1), (4, 1), (5, 1)] [(0, (.const (.int .i64 6))), (3, (.const (.int .i64 (-1))))], none⟩,
    ⟨some 7, .build [(.int .i64 0), (.int .i64 0), (.int .i64 0), (.int .i64 0), (.string ⟨#[]⟩), (.bool false)] [(0, 1), (1, 1), (2, 1), (3, 1), (4, 1), (5, 1)] [(0, (.const (.int .i64 13))), (3, (.const (.int .i64 2))), (4, (.const (.string ⟨#[73, 116, 101, 109]⟩)))], none⟩,
    ⟨some 8, .bslice 125 6 [(.int .i64 0), (.int .i64 0), (.int .i64 0), (.int .i64 0), (.string ⟨#[]⟩), (.bool false)] 4 [(0, (.tmp 4)), (1, (.tmp 5)), (2, (.tmp 6)), (3, (.tmp 7))], none⟩,
    ⟨some 9, .build [(.slice none 0 0), (.slice none 0 0), (.slice none 0 0)] [(0, 1), (1, 1), (2, 1)] [(0, (.tmp 8))], none⟩,
    ⟨some 2, .alloc 50 3 [(.slice none 0 0), (.slice none 0 0), (.slice none 0 0)], none⟩,
    ⟨none, .store 3 (.tmp 2) (.tmp 9), none⟩])
  (.seq
   (.reg [⟨some 10, .build [(.slice none 0 0), (.int .i64 0), (.int .i64 0), (.slice none 0 0), (.int .i64 0), (.slice none 0 0), (.slice none 0 0)] [(0, 1), (1, 3), (4, 1), (5, 1), (6, 1)] [(2, (.const (.int .i64 (-1))))], none⟩,
     ⟨some 11, .build [(.slice none 0 0), (.int .i64 0), (.int .i64 0), (.slice none 0 0), (.int .i64 0), (.slice none 0 0), (.slice none 0 0)] [(0, 1), (1, 3), (4, 1), (5, 1), (6, 1)] [(2, (.const (.int .i64 (-1))))], none⟩,
     ⟨some 12, .call (.func 82) [], none⟩,
     ⟨some 13, .build [(.slice none 0 0), (.int .i64 0), (.int .i64 0), (.slice none 0 0), (.int .i64 0), (.slice none 0 0), (.slice none 0 0)] [(0, 1), (1, 3), (4, 1), (5, 1), (6, 1)] [(1, (.tmp 12))], none⟩,
     ⟨some 14, .call (.func 81) [(.const (.int .i64 4)), (.const (.int .i64 0)), (.const (.slice none 0 0))], none⟩,
     ⟨some 15, .build [(.slice none 0 0), (.int .i64 0), (.int .i64 0), (.slice none 0 0), (.int .i64 0), (.slice none 0 0), (.slice none 0 0)] [(0, 1), (1, 3), (4, 1), (5, 1), (6, 1)] [(2, (.const (.int .i64 (-1)))), (1, (.tmp 14))], none⟩,
     ⟨some 16, .bslice 40 7 [(.slice none 0 0), (.int .i64 0), (.int .i64 0), (.slice none 0 0), (.int .i64 0), (.slice none 0 0), (.slice none 0 0)] 4 [(0, (.tmp 10)), (1, (.tmp 11)), (2, (.tmp 13)), (3, (.tmp 15))], none⟩,
     ⟨some 3, .mov (.tmp 16), none⟩])
   (.seq
    (.reg [⟨some 17, .load true 3 (.tmp 2), none⟩,
      ⟨some 18, .mov (.tmp 3), none⟩,
      ⟨none, .store 3 (.tmp 0) (.tmp 17), none⟩,
      ⟨some 1, .mov (.tmp 18), none⟩])
    (.ret))))
theorem fn93 : Fun Try.prog 93 19 ac93 [.cell 0 3 true, .tmp 1] := ⟨mixedN, Try.f93, _, Try.func93, rfl, by decide +kernel, rfl, by kernel_rfl, by kernel_rfl⟩
/- glossator/glossatorref2.InRange -/
def ac95 : AC := .seq
 (.reg [⟨some 6, .mov (.const (.bool false)), none⟩])
 (.seq
  (.reg [⟨some 7, .mov (.tmp 1), none⟩,
    ⟨some 8, .mov (.tmp 0), none⟩,
    ⟨some 9, .bin .leq .int (.tmp 7) (.tmp 8), none⟩,
    ⟨some 10, .mov (.tmp 9), none⟩,
    ⟨some 11, .mov (.tmp 0), some (10, true)⟩,
    ⟨some 12, .mov (.tmp 2), some (10, true)⟩,
    ⟨some 13, .bin .leq .int (.tmp 11) (.tmp 12), some (10, true)⟩,
    ⟨some 14, .pick (.tmp 10) (.tmp 13) (.const (.bool false)), none⟩,
    ⟨some 6, .mov (.tmp 14), none⟩])
  (.ret))
theorem fn95 : Fun Try.prog 95 15 ac95 [.tmp 6] := ⟨mixedN, Try.f95, _, Try.func95, rfl, by decide +kernel, rfl, by kernel_rfl, by kernel_rfl⟩
/- glossator/glossatorref2.TypeWellFormed -/
def ac96_l0 : AC := .seq
 (.reg [⟨some 59, .bin .lss .int (.tmp 58) (.tmp 57), none⟩])
 (.seq
  (.cond (.tmp 59)
   (.skip)
   (.exit 1))
  (.seq
   (.block 2
    (.seq
     (.reg [⟨some 60, .iaddr 3 (.tmp 56) (.tmp 58), none⟩,
       ⟨some 61, .load true 3 (.tmp 60), none⟩,
       ⟨some 7, .alloc 26 3 [(.int .i64 0), (.int .i64 0), (.slice none 0 0)], none⟩,
       ⟨none, .store 3 (.tmp 7) (.tmp 61), none⟩])
     (.seq
      (.reg [⟨some 62, .load true 3 (.tmp 7), none⟩,
        ⟨some 63, .call (.func 96) [(.tmp 62)], none⟩,
        ⟨some 64, .un .not (.tmp 63), none⟩])
      (.cond (.tmp 64)
       (.seq
        (.reg [⟨some 2, .mov (.const (.bool false)), none⟩])
        (.ret))
       (.skip)))))
   (.reg [⟨some 65, .bin .add .int (.tmp 58) (.const (.int .i64 1)), none⟩,
     ⟨some 58, .mov (.tmp 65), none⟩])))
def ac96 : AC := .seq
 (.reg [⟨some 1, .box 26 3 (.tmp 0), none⟩,
   ⟨some 2, .mov (.const (.bool false)), none⟩])
 (.seq
  (.reg [⟨some 3, .mov (.const (.int .i64 0)), none⟩,
    ⟨some 4, .mov (.const (.int .i64 0)), none⟩,
    ⟨some 5, .mov (.const (.int .i64 0)), none⟩])
  (.seq
   (.seq
    (.reg [⟨some 8, .faddr 0 (.tmp 1), none⟩,
      ⟨some 9, .load false 1 (.tmp 8), none⟩])
    (.block 0
     (.seq
      (.seq
       (.reg [⟨some 11, .bin .eql .int (.tmp 9) (.const (.int .i64 0)), none⟩,
         ⟨some 10, .mov (.tmp 11), none⟩])
       (.cond (.tmp 10)
        (.skip)
        (.seq
         (.reg [⟨some 12, .bin .eql .int (.tmp 9) (.const (.int .i64 3)), none⟩,
           ⟨some 10, .mov (.tmp 12), none⟩])
         (.cond (.tmp 10)
          (.skip)
          (.seq
           (.reg [⟨some 13, .bin .eql .int (.tmp 9) (.const (.int .i64 4)), none⟩,
             ⟨some 10, .mov (.tmp 13), none⟩])
           (.cond (.tmp 10)
            (.skip)
            (.seq
             (.reg [⟨some 14, .bin .eql .int (.tmp 9) (.const (.int .i64 5)), none⟩,
               ⟨some 10, .mov (.tmp 14), none⟩])
             (.cond (.tmp 10)
              (.skip)
              (.reg [⟨some 15, .bin .eql .int (.tmp 9) (.const (.int .i64 6)), none⟩,
                ⟨some 10, .mov (.tmp 15), none⟩])))))))))
      (.cond (.tmp 10)
       (.skip)
       (.seq
        (.seq
         (.reg [⟨some 17, .bin .eql .int (.tmp 9) (.const (.int .i64 1)), none⟩,
           ⟨some 16, .mov (.tmp 17), none⟩])
         (.cond (.tmp 16)
          (.skip)
          (.reg [⟨some 18, .bin .eql .int (.tmp 9) (.const (.int .i64 2)), none⟩,
            ⟨some 16, .mov (.tmp 18), none⟩])))
        (.cond (.tmp 16)
         (.reg [⟨some 5, .mov (.const (.int .i64 (-1))), none⟩])
         (.seq
          (.reg [⟨some 20, .bin .eql .int (.tmp 9) (.const (.int .i64 7)), none⟩,
            ⟨some 19, .mov (.tmp 20), none⟩])
          (.cond (.tmp 19)
           (.dreg [⟨some 21, .faddr 2 (.tmp 1), none⟩,
             ⟨some 22, .load false 1 (.tmp 21), none⟩,
             ⟨some 23, .slen false (.tmp 22), none⟩,
             ⟨some 5, .mov (.const (.int .i64 (-1))), none⟩,
             ⟨some 4, .mov (.tmp 23), none⟩]
             [[], [0], [1], [], [2, 3, 0, 1, 2, 3]]
             [[1], [21], [22], [], [23]])
           (.seq
            (.reg [⟨some 25, .bin .eql .int (.tmp 9) (.const (.int .i64 8)), none⟩,
              ⟨some 24, .mov (.tmp 25), none⟩])
            (.cond (.tmp 24)
             (.reg [⟨some 3, .mov (.const (.int .i64 1)), none⟩,
               ⟨some 4, .mov (.const (.int .i64 1)), none⟩,
               ⟨some 5, .mov (.const (.int .i64 1)), none⟩])
             (.seq
              (.reg [⟨some 27, .bin .eql .int (.tmp 9) (.const (.int .i64 9)), none⟩,
                ⟨some 26, .mov (.tmp 27), none⟩])
              (.cond (.tmp 26)
               (.dreg [⟨some 28, .faddr 2 (.tmp 1), none⟩,
                 ⟨some 29, .load false 1 (.tmp 28), none⟩,
                 ⟨some 30, .slen false (.tmp 29), none⟩,
                 ⟨some 3, .mov (.const (.int .i64 1)), none⟩,
                 ⟨some 4, .mov (.tmp 30), none⟩]
                 [[], [0], [1], [], [2, 3, 0, 1, 2, 3]]
                 [[1], [28], [29], [], [30]])
               (.seq
                (.reg [⟨some 32, .bin .eql .int (.tmp 9) (.const (.int .i64 10)), none⟩,
                  ⟨some 31, .mov (.tmp 32), none⟩])
                (.cond (.tmp 31)
                 (.reg [⟨some 3, .mov (.const (.int .i64 1)), none⟩,
                   ⟨some 4, .mov (.const (.int .i64 1)), none⟩,
                   ⟨some 5, .mov (.const (.int .i64 (-1))), none⟩])
                 (.seq
                  (.reg [⟨some 2, .mov (.const (.bool false)), none⟩])
                  (.ret))))))))))))))))
   (.seq
    (.seq
     (.reg [⟨some 33, .faddr 2 (.tmp 1), none⟩,
       ⟨some 34, .load false 1 (.tmp 33), none⟩,
       ⟨some 35, .slen false (.tmp 34), none⟩,
       ⟨some 36, .mov (.tmp 3), none⟩,
       ⟨some 37, .mov (.tmp 4), none⟩,
       ⟨some 38, .call (.func 95) [(.tmp 35), (.tmp 36), (.tmp 37)], none⟩,
       ⟨some 39, .un .not (.tmp 38), none⟩,
       ⟨some 40, .mov (.tmp 39), none⟩,
       ⟨some 41, .faddr 1 (.tmp 1), some (40, false)⟩,
       ⟨some 42, .load false 1 (.tmp 41), some (40, false)⟩,
       ⟨some 43, .bin .lss .int (.tmp 42) (.const (.int .i64 0)), some (40, false)⟩,
       ⟨some 44, .pick (.tmp 40) (.const (.bool true)) (.tmp 43), none⟩,
       ⟨some 45, .mov (.tmp 44), none⟩,
       ⟨some 46, .mov (.tmp 5), some (45, false)⟩,
       ⟨some 47, .bin .geq .int (.tmp 46) (.const (.int .i64 0)), some (45, false)⟩,
       ⟨some 48, .mov (.tmp 47), some (45, false)⟩,
       ⟨some 49, .faddr 1 (.tmp 1), some (48, true)⟩,
       ⟨some 50, .load false 1 (.tmp 49), some (48, true)⟩,
       ⟨some 51, .mov (.tmp 5), some (48, true)⟩,
       ⟨some 52, .bin .gtr .int (.tmp 50) (.tmp 51), some (48, true)⟩,
       ⟨some 53, .pick (.tmp 48) (.tmp 52) (.const (.bool false)), some (45, false)⟩,
       ⟨some 54, .pick (.tmp 45) (.const (.bool true)) (.tmp 53), none⟩])
     (.cond (.tmp 54)
      (.seq
       (.reg [⟨some 2, .mov (.const (.bool false)), none⟩])
       (.ret))
      (.skip)))
    (.seq
     (.seq
      (.reg [⟨some 55, .faddr 2 (.tmp 1), none⟩,
        ⟨some 56, .load false 1 (.tmp 55), none⟩,
        ⟨some 57, .slen false (.tmp 56), none⟩,
        ⟨some 58, .mov (.const (.int .i64 0)), none⟩])
      (.block 1
       (.loop ac96_l0)))
     (.seq
      (.reg [⟨some 2, .mov (.const (.bool true)), none⟩])
      (.ret))))))
theorem fn96 : Fun Try.prog 96 66 ac96 [.tmp 2] := ⟨mixedN, Try.f96, _, Try.func96, rfl, by decide +kernel, rfl, by kernel_rfl, by kernel_rfl⟩
/- (*glossator/assoctypes.normalizer).projection -/
def ac150 : AC := .seq
 (.reg [⟨some 3, .box 117 1 (.tmp 0), none⟩,
   ⟨some 4, .box 26 3 (.tmp 1), none⟩,
   ⟨some 6, .alloc 26 3 [(.int .i64 0), (.int .i64 0), (.slice none 0 0)], none⟩])
 (.seq
  (.reg [⟨some 11, .load false 1 (.tmp 3), none⟩,
    ⟨some 12, .faddr 1 (.tmp 4), none⟩,
    ⟨some 13, .load false 1 (.tmp 12), none⟩,
    ⟨some 14, .call (.func 182) [(.tmp 11), (.tmp 13)], none⟩,
    ⟨some 7, .mov (.tmp 14), none⟩])
  (.seq
   (.seq
    (.reg [⟨some 15, .mov (.tmp 7), none⟩,
      ⟨some 16, .bin .lss .int (.tmp 15) (.const (.int .i64 0)), none⟩,
      ⟨some 17, .mov (.tmp 16), none⟩,
      ⟨some 18, .faddr 2 (.tmp 4), some (17, false)⟩,
      ⟨some 19, .load false 1 (.tmp 18), some (17, false)⟩,
      ⟨some 20, .slen false (.tmp 19), some (17, false)⟩,
      ⟨some 21, .bin .neq .int (.tmp 20) (.const (.int .i64 1)), some (17, false)⟩,
      ⟨some 22, .pick (.tmp 17) (.const (.bool true)) (.tmp 21), none⟩])
    (.cond (.tmp 22)
     (.seq
      (.reg [⟨some 23, .load false 1 (.tmp 3), none⟩,
        ⟨some 24, .nilc (.tmp 23), none⟩,
        ⟨some 25, .faddr 5 (.tmp 24), none⟩,
        ⟨none, .store 1 (.tmp 25) (.const (.bool true)), none⟩])
      (.seq
       (.reg [⟨some 26, .build [(.int .i64 0), (.int .i64 0), (.slice none 0 0)] [(0, 1), (1, 1), (2, 1)] [], none⟩,
         ⟨none, .store 3 (.tmp 6) (.tmp 26), none⟩])
       (.ret)))
     (.skip)))
   (.seq
    (.dreg [⟨some 28, .load false 1 (.tmp 3), none⟩,
      ⟨some 29, .nilc (.tmp 28), none⟩,
      ⟨some 30, .faddr 3 (.tmp 29), none⟩,
      ⟨some 31, .load false 1 (.tmp 30), none⟩,
      ⟨some 32, .load false 1 (.tmp 3), none⟩,
      ⟨some 33, .nilc (.tmp 32), none⟩,
      ⟨some 34, .faddr 4 (.tmp 33), none⟩,
      ⟨some 35, .load false 1 (.tmp 34), none⟩,
      ⟨some 36, .faddr 2 (.tmp 4), none⟩,
      ⟨some 37, .load false 1 (.tmp 36), none⟩,
      ⟨some 38, .iaddr 3 (.tmp 37) (.const (.int .i64 0)), none⟩,
      ⟨some 39, .load true 3 (.tmp 38), none⟩,
      ⟨some 40, .mov (.tmp 7), none⟩,
      ⟨some 41, .call (.func 22) [(.tmp 31), (.tmp 35), (.tmp 39), (.tmp 40)], none⟩,
      ⟨some 27, .mov (.tmp 41), none⟩,
      ⟨some 42, .ext (.tmp 27) 0, none⟩,
      ⟨some 43, .ext (.tmp 27) 1, none⟩,
      ⟨some 8, .alloc 30 8 [(.int .i64 0), (.int .i64 0), (.slice none 0 0), (.int .i64 0), (.int .i64 0), (.int .i64 0), (.slice none 0 0), (.slice none 0 0)], none⟩,
      ⟨none, .store 8 (.tmp 8) (.tmp 42), none⟩,
      ⟨some 9, .mov (.tmp 43), none⟩]
      [[], [0], [1], [2], [], [4], [5], [6], [], [8], [9], [10], [], [3, 7, 11, 12], [13], [14], [14], [], [17, 15, 13, 0, 1, 2, 3, 4, 5, 6, 7, 8, 9, 10, 11, 12, 13, 14, 15, 17], [16, 18, 0, 1, 2, 3, 4, 5, 6, 7, 8, 9, 10, 11, 12, 13, 14, 15, 16, 17, 18]]
      [[3], [28], [29], [30], [3], [32], [33], [34], [4], [36], [37], [38], [7], [31, 35, 39, 40], [41], [27], [27], [], [8, 42], [43]])
    (.seq
     (.seq
      (.reg [⟨some 44, .mov (.tmp 9), none⟩,
        ⟨some 45, .un .not (.tmp 44), none⟩,
        ⟨some 46, .mov (.tmp 45), none⟩,
        ⟨some 47, .faddr 4 (.tmp 8), some (46, false)⟩,
        ⟨some 48, .load false 1 (.tmp 47), some (46, false)⟩,
        ⟨some 49, .bin .lss .int (.tmp 48) (.const (.int .i64 0)), some (46, false)⟩,
        ⟨some 50, .pick (.tmp 46) (.const (.bool true)) (.tmp 49), none⟩])
      (.cond (.tmp 50)
       (.seq
        (.reg [⟨some 51, .load true 3 (.tmp 4), none⟩,
          ⟨none, .store 3 (.tmp 6) (.tmp 51), none⟩])
        (.ret))
       (.skip)))
     (.seq
      (.reg [⟨some 52, .load false 1 (.tmp 3), none⟩,
        ⟨some 53, .nilc (.tmp 52), none⟩,
        ⟨some 54, .faddr 0 (.tmp 53), none⟩,
        ⟨some 55, .faddr 0 (.tmp 54), none⟩,
        ⟨some 56, .load false 1 (.tmp 55), none⟩,
        ⟨some 57, .mkfn 184 [(.tmp 8), (.tmp 3), (.tmp 4)], none⟩,
        ⟨some 58, .call (.func 183) [(.tmp 56), (.tmp 57)], none⟩,
        ⟨some 10, .mov (.tmp 58), none⟩])
      (.seq
       (.seq
        (.reg [⟨some 59, .mov (.tmp 10), none⟩,
          ⟨some 60, .bin .lss .int (.tmp 59) (.const (.int .i64 0)), none⟩,
          ⟨some 61, .mov (.tmp 60), none⟩,
          ⟨some 62, .mov (.tmp 2), some (61, false)⟩,
          ⟨some 63, .bin .eql .int (.tmp 62) (.const (.int .i64 0)), some (61, false)⟩,
          ⟨some 64, .pick (.tmp 61) (.const (.bool true)) (.tmp 63), none⟩])
        (.cond (.tmp 64)
         (.seq
          (.reg [⟨some 65, .build [(.int .i64 0), (.int .i64 0), (.slice none 0 0)] [(0, 1), (1, 1), (2, 1)] [], none⟩,
            ⟨none, .store 3 (.tmp 6) (.tmp 65), none⟩])
          (.ret))
         (.skip)))
       (.seq
        (.dreg [⟨some 66, .load false 1 (.tmp 3), none⟩,
          ⟨some 67, .load false 1 (.tmp 3), none⟩,
          ⟨some 68, .nilc (.tmp 67), none⟩,
          ⟨some 69, .faddr 3 (.tmp 68), none⟩,
          ⟨some 70, .load false 1 (.tmp 69), none⟩,
          ⟨some 71, .mov (.tmp 10), none⟩,
          ⟨some 72, .iaddr 7 (.tmp 70) (.tmp 71), none⟩,
          ⟨some 73, .faddr 1 (.tmp 72), none⟩,
          ⟨some 74, .load true 3 (.tmp 73), none⟩,
          ⟨some 75, .load false 1 (.tmp 3), none⟩,
          ⟨some 76, .nilc (.tmp 75), none⟩,
          ⟨some 77, .faddr 3 (.tmp 76), none⟩,
          ⟨some 78, .load false 1 (.tmp 77), none⟩,
          ⟨some 79, .faddr 4 (.tmp 8), none⟩,
          ⟨some 80, .load false 1 (.tmp 79), none⟩,
          ⟨some 81, .iaddr 7 (.tmp 78) (.tmp 80), none⟩,
          ⟨some 82, .faddr 0 (.tmp 81), none⟩,
          ⟨some 83, .load false 1 (.tmp 82), none⟩,
          ⟨some 84, .faddr 6 (.tmp 8), none⟩,
          ⟨some 85, .load false 1 (.tmp 84), none⟩,
          ⟨some 86, .call (.func 80) [(.tmp 74), (.tmp 83), (.tmp 85)], none⟩,
          ⟨some 87, .mov (.tmp 2), none⟩,
          ⟨some 88, .bin .sub .int (.tmp 87) (.const (.int .i64 1)), none⟩,
          ⟨some 89, .call (.func 89) [(.tmp 66), (.tmp 86), (.tmp 88)], none⟩,
          ⟨none, .store 3 (.tmp 6) (.tmp 89), none⟩]
          [[], [], [1], [2], [3], [], [4, 5], [6], [7], [], [9], [10], [11], [], [13], [12, 14], [15], [16], [], [18], [8, 17, 19], [], [21], [0, 20, 22, 20], [23, 23, 0, 1, 2, 3, 4, 5, 6, 7, 8, 9, 10, 11, 12, 13, 14, 15, 16, 17, 18, 19, 20, 21, 22, 23]]
          [[3], [3], [67], [68], [69], [10], [70, 71], [72], [73], [3], [75], [76], [77], [8], [79], [78, 80], [81], [82], [8], [84], [74, 83, 85], [2], [87], [66, 86, 88], [6, 89]])
        (.ret))))))))
theorem fn150 : Fun Try.prog 150 90 ac150 [.cell 6 3 true] := ⟨mixedN, Try.f150, _, Try.func150, rfl, by decide +kernel, rfl, by kernel_rfl, by kernel_rfl⟩
/- glossator/types.nodeWellFormed -/
def ac152 : AC := .seq
 (.reg [⟨some 1, .box 26 3 (.tmp 0), none⟩,
   ⟨some 2, .mov (.const (.bool false)), none⟩])
 (.seq
  (.reg [⟨some 4, .faddr 2 (.tmp 1), none⟩,
    ⟨some 5, .load false 1 (.tmp 4), none⟩,
    ⟨some 6, .slen false (.tmp 5), none⟩,
    ⟨some 3, .mov (.tmp 6), none⟩])
  (.seq
   (.seq
    (.reg [⟨some 7, .faddr 0 (.tmp 1), none⟩,
      ⟨some 8, .load false 1 (.tmp 7), none⟩])
    (.block 0
     (.seq
      (.seq
       (.reg [⟨some 10, .bin .eql .int (.tmp 8) (.const (.int .i64 0)), none⟩,
         ⟨some 9, .mov (.tmp 10), none⟩])
       (.cond (.tmp 9)
        (.skip)
        (.seq
         (.reg [⟨some 11, .bin .eql .int (.tmp 8) (.const (.int .i64 3)), none⟩,
           ⟨some 9, .mov (.tmp 11), none⟩])
         (.cond (.tmp 9)
          (.skip)
          (.seq
           (.reg [⟨some 12, .bin .eql .int (.tmp 8) (.const (.int .i64 4)), none⟩,
             ⟨some 9, .mov (.tmp 12), none⟩])
           (.cond (.tmp 9)
            (.skip)
            (.seq
             (.reg [⟨some 13, .bin .eql .int (.tmp 8) (.const (.int .i64 5)), none⟩,
               ⟨some 9, .mov (.tmp 13), none⟩])
             (.cond (.tmp 9)
              (.skip)
              (.reg [⟨some 14, .bin .eql .int (.tmp 8) (.const (.int .i64 6)), none⟩,
                ⟨some 9, .mov (.tmp 14), none⟩])))))))))
      (.cond (.tmp 9)
       (.seq
        (.reg [⟨some 15, .faddr 1 (.tmp 1), none⟩,
          ⟨some 16, .load false 1 (.tmp 15), none⟩,
          ⟨some 17, .bin .eql .int (.tmp 16) (.const (.int .i64 0)), none⟩,
          ⟨some 18, .mov (.tmp 17), none⟩,
          ⟨some 19, .mov (.tmp 3), some (18, true)⟩,
          ⟨some 20, .bin .eql .int (.tmp 19) (.const (.int .i64 0)), some (18, true)⟩,
          ⟨some 21, .pick (.tmp 18) (.tmp 20) (.const (.bool false)), none⟩,
          ⟨some 2, .mov (.tmp 21), none⟩])
        (.ret))
       (.seq
        (.seq
         (.reg [⟨some 23, .bin .eql .int (.tmp 8) (.const (.int .i64 1)), none⟩,
           ⟨some 22, .mov (.tmp 23), none⟩])
         (.cond (.tmp 22)
          (.skip)
          (.reg [⟨some 24, .bin .eql .int (.tmp 8) (.const (.int .i64 2)), none⟩,
            ⟨some 22, .mov (.tmp 24), none⟩])))
        (.cond (.tmp 22)
         (.seq
          (.reg [⟨some 25, .faddr 1 (.tmp 1), none⟩,
            ⟨some 26, .load false 1 (.tmp 25), none⟩,
            ⟨some 27, .bin .geq .int (.tmp 26) (.const (.int .i64 0)), none⟩,
            ⟨some 28, .mov (.tmp 27), none⟩,
            ⟨some 29, .mov (.tmp 3), some (28, true)⟩,
            ⟨some 30, .bin .eql .int (.tmp 29) (.const (.int .i64 0)), some (28, true)⟩,
            ⟨some 31, .pick (.tmp 28) (.tmp 30) (.const (.bool false)), none⟩,
            ⟨some 2, .mov (.tmp 31), none⟩])
          (.ret))
         (.seq
          (.reg [⟨some 33, .bin .eql .int (.tmp 8) (.const (.int .i64 7)), none⟩,
            ⟨some 32, .mov (.tmp 33), none⟩])
          (.cond (.tmp 32)
           (.seq
            (.reg [⟨some 34, .faddr 1 (.tmp 1), none⟩,
              ⟨some 35, .load false 1 (.tmp 34), none⟩,
              ⟨some 36, .bin .geq .int (.tmp 35) (.const (.int .i64 0)), none⟩,
              ⟨some 2, .mov (.tmp 36), none⟩])
            (.ret))
           (.seq
            (.reg [⟨some 38, .bin .eql .int (.tmp 8) (.const (.int .i64 8)), none⟩,
              ⟨some 37, .mov (.tmp 38), none⟩])
            (.cond (.tmp 37)
             (.seq
              (.reg [⟨some 39, .faddr 1 (.tmp 1), none⟩,
                ⟨some 40, .load false 1 (.tmp 39), none⟩,
                ⟨some 41, .bin .eql .int (.tmp 40) (.const (.int .i64 0)), none⟩,
                ⟨some 42, .mov (.tmp 41), none⟩,
                ⟨some 43, .faddr 1 (.tmp 1), some (42, false)⟩,
                ⟨some 44, .load false 1 (.tmp 43), some (42, false)⟩,
                ⟨some 45, .bin .eql .int (.tmp 44) (.const (.int .i64 1)), some (42, false)⟩,
                ⟨some 46, .pick (.tmp 42) (.const (.bool true)) (.tmp 45), none⟩,
                ⟨some 47, .mov (.tmp 46), none⟩,
                ⟨some 48, .mov (.tmp 3), some (47, true)⟩,
                ⟨some 49, .bin .eql .int (.tmp 48) (.const (.int .i64 1)), some (47, true)⟩,
                ⟨some 50, .pick (.tmp 47) (.tmp 49) (.const (.bool false)), none⟩,
                ⟨some 2, .mov (.tmp 50), none⟩])
              (.ret))
             (.seq
              (.reg [⟨some 52, .bin .eql .int (.tmp 8) (.const (.int .i64 9)), none⟩,
                ⟨some 51, .mov (.tmp 52), none⟩])
              (.cond (.tmp 51)
               (.seq
                (.reg [⟨some 53, .faddr 1 (.tmp 1), none⟩,
                  ⟨some 54, .load false 1 (.tmp 53), none⟩,
                  ⟨some 55, .bin .eql .int (.tmp 54) (.const (.int .i64 0)), none⟩,
                  ⟨some 56, .mov (.tmp 55), none⟩,
                  ⟨some 57, .mov (.tmp 3), some (56, true)⟩,
                  ⟨some 58, .bin .gtr .int (.tmp 57) (.const (.int .i64 0)), some (56, true)⟩,
                  ⟨some 59, .pick (.tmp 56) (.tmp 58) (.const (.bool false)), none⟩,
                  ⟨some 2, .mov (.tmp 59), none⟩])
                (.ret))
               (.seq
                (.reg [⟨some 61, .bin .eql .int (.tmp 8) (.const (.int .i64 10)), none⟩,
                  ⟨some 60, .mov (.tmp 61), none⟩])
                (.cond (.tmp 60)
                 (.seq
                  (.reg [⟨some 62, .faddr 1 (.tmp 1), none⟩,
                    ⟨some 63, .load false 1 (.tmp 62), none⟩,
                    ⟨some 64, .bin .geq .int (.tmp 63) (.const (.int .i64 0)), none⟩,
                    ⟨some 65, .mov (.tmp 64), none⟩,
                    ⟨some 66, .mov (.tmp 3), some (65, true)⟩,
                    ⟨some 67, .bin .eql .int (.tmp 66) (.const (.int .i64 1)), some (65, true)⟩,
                    ⟨some 68, .pick (.tmp 65) (.tmp 67) (.const (.bool false)), none⟩,
                    ⟨some 2, .mov (.tmp 68), none⟩])
                  (.ret))
                 (.skip)))))))))))))))
   (.seq
    (.reg [⟨some 2, .mov (.const (.bool false)), none⟩])
    (.ret))))
theorem fn152 : Fun Try.prog 152 69 ac152 [.tmp 2] := ⟨mixedN, Try.f152, _, Try.func152, rfl, by decide +kernel, rfl, by kernel_rfl, by kernel_rfl⟩
/- glossator/types.wellFormed$1 -/
def ac153 : AC := .seq
 (.reg [⟨some 1, .box 26 3 (.tmp 0), none⟩,
   ⟨some 2, .mov (.const (.bool false)), none⟩])
 (.seq
  (.reg [⟨some 3, .load true 3 (.tmp 1), none⟩,
    ⟨some 4, .call (.func 92) [(.tmp 3)], none⟩,
    ⟨some 5, .un .not (.tmp 4), none⟩,
    ⟨some 2, .mov (.tmp 5), none⟩])
  (.ret))
theorem fn153 : Fun Try.prog 153 6 ac153 [.tmp 2] := ⟨mixedN, Try.f153, _, Try.func153, rfl, by decide +kernel, rfl, by kernel_rfl, by kernel_rfl⟩
/- (*glossator/assoctypes.normalizer).trait -/
def ac182 : AC := .seq
 (.reg [⟨some 4, .mov (.const (.int .i64 0)), none⟩])
 (.seq
  (.seq
   (.reg [⟨some 6, .mov (.tmp 1), none⟩,
     ⟨some 7, .bin .lss .int (.tmp 6) (.const (.int .i64 0)), none⟩,
     ⟨some 8, .mov (.tmp 7), none⟩,
     ⟨some 9, .mov (.tmp 1), some (8, false)⟩,
     ⟨some 10, .mov (.tmp 0), some (8, false)⟩,
     ⟨some 11, .nilc (.tmp 10), some (8, false)⟩,
     ⟨some 12, .faddr 0 (.tmp 11), some (8, false)⟩,
     ⟨some 13, .faddr 0 (.tmp 12), some (8, false)⟩,
     ⟨some 14, .load false 1 (.tmp 13), some (8, false)⟩,
     ⟨some 15, .slen false (.tmp 14), some (8, false)⟩,
     ⟨some 16, .bin .geq .int (.tmp 9) (.tmp 15), some (8, false)⟩,
     ⟨some 17, .pick (.tmp 8) (.const (.bool true)) (.tmp 16), none⟩,
     ⟨some 18, .mov (.tmp 17), none⟩,
     ⟨some 19, .mov (.tmp 0), some (18, false)⟩,
     ⟨some 20, .nilc (.tmp 19), some (18, false)⟩,
     ⟨some 21, .faddr 0 (.tmp 20), some (18, false)⟩,
     ⟨some 22, .faddr 0 (.tmp 21), some (18, false)⟩,
     ⟨some 23, .load false 1 (.tmp 22), some (18, false)⟩,
     ⟨some 24, .mov (.tmp 1), some (18, false)⟩,
     ⟨some 25, .iaddr 6 (.tmp 23) (.tmp 24), some (18, false)⟩,
     ⟨some 26, .faddr 0 (.tmp 25), some (18, false)⟩,
     ⟨some 27, .load false 1 (.tmp 26), some (18, false)⟩,
     ⟨some 28, .bin .neq .int (.tmp 27) (.const (.int .i64 13)), some (18, false)⟩,
     ⟨some 29, .pick (.tmp 18) (.const (.bool true)) (.tmp 28), none⟩])
   (.cond (.tmp 29)
    (.seq
     (.reg [⟨some 4, .mov (.const (.int .i64 (-1))), none⟩])
     (.ret))
    (.skip)))
  (.seq
   (.reg [⟨some 30, .mov (.tmp 0), none⟩,
     ⟨some 31, .nilc (.tmp 30), none⟩,
     ⟨some 32, .faddr 0 (.tmp 31), none⟩,
     ⟨some 33, .faddr 0 (.tmp 32), none⟩,
     ⟨some 34, .load false 1 (.tmp 33), none⟩,
     ⟨some 35, .mov (.tmp 1), none⟩,
     ⟨some 36, .iaddr 6 (.tmp 34) (.tmp 35), none⟩,
     ⟨some 37, .faddr 3 (.tmp 36), none⟩,
     ⟨some 38, .load false 1 (.tmp 37), none⟩,
     ⟨some 5, .mov (.tmp 38), none⟩])
   (.seq
    (.seq
     (.reg [⟨some 39, .mov (.tmp 5), none⟩,
       ⟨some 40, .bin .lss .int (.tmp 39) (.const (.int .i64 0)), none⟩,
       ⟨some 41, .mov (.tmp 40), none⟩,
       ⟨some 42, .mov (.tmp 5), some (41, false)⟩,
       ⟨some 43, .mov (.tmp 0), some (41, false)⟩,
       ⟨some 44, .nilc (.tmp 43), some (41, false)⟩,
       ⟨some 45, .faddr 0 (.tmp 44), some (41, false)⟩,
       ⟨some 46, .faddr 0 (.tmp 45), some (41, false)⟩,
       ⟨some 47, .load false 1 (.tmp 46), some (41, false)⟩,
       ⟨some 48, .slen false (.tmp 47), some (41, false)⟩,
       ⟨some 49, .bin .geq .int (.tmp 42) (.tmp 48), some (41, false)⟩,
       ⟨some 50, .pick (.tmp 41) (.const (.bool true)) (.tmp 49), none⟩,
       ⟨some 51, .mov (.tmp 50), none⟩,
       ⟨some 52, .mov (.tmp 0), some (51, false)⟩,
       ⟨some 53, .nilc (.tmp 52), some (51, false)⟩,
       ⟨some 54, .faddr 0 (.tmp 53), some (51, false)⟩,
       ⟨some 55, .faddr 0 (.tmp 54), some (51, false)⟩,
       ⟨some 56, .load false 1 (.tmp 55), some (51, false)⟩,
       ⟨some 57, .mov (.tmp 5), some (51, false)⟩,
       ⟨some 58, .iaddr 6 (.tmp 56) (.tmp 57), some (51, false)⟩,
       ⟨some 59, .faddr 0 (.tmp 58), some (51, false)⟩,
       ⟨some 60, .load false 1 (.tmp 59), some (51, false)⟩,
       ⟨some 61, .bin .neq .int (.tmp 60) (.const (.int .i64 5)), some (51, false)⟩,
       ⟨some 62, .pick (.tmp 51) (.const (.bool true)) (.tmp 61), none⟩])
     (.cond (.tmp 62)
      (.seq
       (.reg [⟨some 4, .mov (.const (.int .i64 (-1))), none⟩])
       (.ret))
      (.skip)))
    (.seq
     (.reg [⟨some 63, .mov (.tmp 5), none⟩,
       ⟨some 4, .mov (.tmp 63), none⟩])
     (.ret)))))
theorem fn182 : Fun Try.prog 182 64 ac182 [.tmp 4] := ⟨mixedN, Try.f182, _, Try.func182, rfl, by decide +kernel, rfl, by kernel_rfl, by kernel_rfl⟩
/- slices.IndexFunc[[]glossator/api.Symbol,glossator/api.Symbol] -/
def ac183_l0 : AC := .seq
 (.reg [⟨some 9, .bin .lss .int (.tmp 8) (.tmp 7), none⟩])
 (.seq
  (.cond (.tmp 9)
   (.skip)
   (.exit 0))
  (.seq
   (.block 1
    (.seq
     (.reg [⟨some 10, .mov (.tmp 8), none⟩,
       ⟨some 5, .mov (.tmp 10), none⟩])
     (.seq
      (.reg [⟨some 11, .mov (.tmp 1), none⟩,
        ⟨some 12, .mov (.tmp 0), none⟩,
        ⟨some 13, .mov (.tmp 5), none⟩,
        ⟨some 14, .iaddr 6 (.tmp 12) (.tmp 13), none⟩,
        ⟨some 15, .load true 6 (.tmp 14), none⟩,
        ⟨some 16, .call (.tmp 11) [(.tmp 15)], none⟩])
      (.cond (.tmp 16)
       (.seq
        (.reg [⟨some 17, .mov (.tmp 5), none⟩,
          ⟨some 4, .mov (.tmp 17), none⟩])
        (.ret))
       (.skip)))))
   (.reg [⟨some 18, .bin .add .int (.tmp 8) (.const (.int .i64 1)), none⟩,
     ⟨some 8, .mov (.tmp 18), none⟩])))
def ac183 : AC := .seq
 (.reg [⟨some 4, .mov (.const (.int .i64 0)), none⟩])
 (.seq
  (.seq
   (.reg [⟨some 6, .mov (.tmp 0), none⟩,
     ⟨some 7, .slen false (.tmp 6), none⟩,
     ⟨some 8, .mov (.const (.int .i64 0)), none⟩])
   (.block 0
    (.loop ac183_l0)))
  (.seq
   (.reg [⟨some 4, .mov (.const (.int .i64 (-1))), none⟩])
   (.ret)))
theorem fn183 : Fun Try.prog 183 19 ac183 [.tmp 4] := ⟨mixedN, Try.f183, _, Try.func183, rfl, by decide +kernel, rfl, by kernel_rfl, by kernel_rfl⟩
/- (*glossator/assoctypes.normalizer).projection$1 -/
def ac184 : AC := .seq
 (.reg [⟨some 4, .box 125 6 (.tmp 0), none⟩,
   ⟨some 5, .mov (.const (.bool false)), none⟩])
 (.seq
  (.dreg [⟨some 6, .faddr 0 (.tmp 4), none⟩,
    ⟨some 7, .load false 1 (.tmp 6), none⟩,
    ⟨some 8, .bin .eql .int (.tmp 7) (.const (.int .i64 13)), none⟩,
    ⟨some 9, .mov (.tmp 8), none⟩,
    ⟨some 10, .faddr 3 (.tmp 4), some (9, true)⟩,
    ⟨some 11, .load false 1 (.tmp 10), some (9, true)⟩,
    ⟨some 12, .faddr 4 (.tmp 1), some (9, true)⟩,
    ⟨some 13, .load false 1 (.tmp 12), some (9, true)⟩,
    ⟨some 14, .bin .eql .int (.tmp 11) (.tmp 13), some (9, true)⟩,
    ⟨some 15, .pick (.tmp 9) (.tmp 14) (.const (.bool false)), none⟩,
    ⟨some 16, .mov (.tmp 15), none⟩,
    ⟨some 17, .faddr 4 (.tmp 4), some (16, true)⟩,
    ⟨some 18, .load false 1 (.tmp 17), some (16, true)⟩,
    ⟨some 19, .load false 1 (.tmp 2), some (16, true)⟩,
    ⟨some 20, .nilc (.tmp 19), some (16, true)⟩,
    ⟨some 21, .faddr 0 (.tmp 20), some (16, true)⟩,
    ⟨some 22, .faddr 0 (.tmp 21), some (16, true)⟩,
    ⟨some 23, .load false 1 (.tmp 22), some (16, true)⟩,
    ⟨some 24, .faddr 1 (.tmp 3), some (16, true)⟩,
    ⟨some 25, .load false 1 (.tmp 24), some (16, true)⟩,
    ⟨some 26, .iaddr 6 (.tmp 23) (.tmp 25), some (16, true)⟩,
    ⟨some 27, .faddr 4 (.tmp 26), some (16, true)⟩,
    ⟨some 28, .load false 1 (.tmp 27), some (16, true)⟩,
    ⟨some 29, .bin .eql .str (.tmp 18) (.tmp 28), some (16, true)⟩,
    ⟨some 30, .pick (.tmp 16) (.tmp 29) (.const (.bool false)), none⟩,
    ⟨some 5, .mov (.tmp 30), none⟩]
    [[], [0], [1], [2], [3], [4, 3], [3], [6, 3], [5, 7, 3], [3, 8], [9, 3], [10], [11, 10], [10], [13, 10], [14, 10], [15, 10], [16, 10], [10], [18, 10], [17, 19, 10], [20, 10], [21, 10], [12, 22, 10], [10, 23], [24, 10, 0, 1, 2, 3, 4, 5, 6, 7, 8, 9, 10, 11, 12, 13, 14, 15, 16, 17, 18, 19, 20, 21, 22, 23, 24]]
    [[4], [6], [7], [8], [4, 9], [10, 9], [1, 9], [12, 9], [11, 13, 9], [9, 14], [15], [4, 16], [17, 16], [2, 16], [19, 16], [20, 16], [21, 16], [22, 16], [3, 16], [24, 16], [23, 25, 16], [26, 16], [27, 16], [18, 28, 16], [16, 29], [30]])
  (.ret))
theorem fn184 : Fun Try.prog 184 31 ac184 [.tmp 5] := ⟨mixedN, Try.f184, _, Try.func184, rfl, by decide +kernel, rfl, by kernel_rfl, by kernel_rfl⟩
end Go.Proofs.Ytbdoblgofddhdaa
