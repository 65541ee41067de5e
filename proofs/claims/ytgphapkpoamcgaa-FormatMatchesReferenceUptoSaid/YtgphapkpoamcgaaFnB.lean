/- The compact texts of the functions, printed by a program of mine (wip/tools/PrintFn.lean); each is shown to be what the translation compiles to. -/
import Derived.Test.YtgphapkpoamcgaaBb17
import Derived.Test.YtgphapkpoamcgaaProg
set_option maxRecDepth 100000
namespace Go.Proofs.Ytgphapkpoamcgaa
open Go Go.Ab
theorem mixedB : Try.prog.follows .mixedOrders = true := by kernel_rfl
/- glossator/glossatorkeep2.SchemeMatchRoundTrip -/
def ac3_l0 : AC := .seq
 (.reg [⟨some 69, .bin .lss .int (.tmp 68) (.tmp 67), none⟩])
 (.seq
  (.cond (.tmp 69)
   (.skip)
   (.exit 0))
  (.seq
   (.block 1
    (.seq
     (.reg [⟨some 70, .mov (.tmp 68), none⟩,
       ⟨some 12, .mov (.tmp 70), none⟩])
     (.seq
      (.dreg [⟨some 71, .mov (.tmp 11), none⟩,
        ⟨some 72, .mov (.tmp 12), none⟩,
        ⟨some 73, .iaddr 3 (.tmp 71) (.tmp 72), none⟩,
        ⟨some 74, .faddr 0 (.tmp 73), none⟩,
        ⟨some 75, .load false 1 (.tmp 74), none⟩,
        ⟨some 76, .bin .neq .int (.tmp 75) (.const (.int .i64 0)), none⟩,
        ⟨some 77, .mov (.tmp 76), none⟩,
        ⟨some 78, .mov (.tmp 11), some (77, true)⟩,
        ⟨some 79, .mov (.tmp 12), some (77, true)⟩,
        ⟨some 80, .iaddr 3 (.tmp 78) (.tmp 79), some (77, true)⟩,
        ⟨some 81, .load true 3 (.tmp 80), some (77, true)⟩,
        ⟨some 82, .mov (.tmp 3), some (77, true)⟩,
        ⟨some 83, .mov (.tmp 12), some (77, true)⟩,
        ⟨some 84, .iaddr 3 (.tmp 82) (.tmp 83), some (77, true)⟩,
        ⟨some 85, .load true 3 (.tmp 84), some (77, true)⟩,
        ⟨some 86, .call (.func 15) [(.tmp 81), (.tmp 85)], some (77, true)⟩,
        ⟨some 87, .un .not (.tmp 86), some (77, true)⟩,
        ⟨some 88, .pick (.tmp 77) (.tmp 87) (.const (.bool false)), none⟩]
        [[], [], [0, 1], [2], [3], [4], [5], [6], [6], [7, 8, 6], [9, 6], [6], [6], [11, 12, 6], [13, 6], [10, 14, 6, 6], [15, 6], [6, 16]]
        [[11], [12], [71, 72], [73], [74], [75], [76], [11, 77], [12, 77], [78, 79, 77], [80, 77], [3, 77], [12, 77], [82, 83, 77], [84, 77], [81, 85, 77], [86, 77], [77, 87]])
      (.cond (.tmp 88)
       (.seq
        (.reg [⟨some 8, .mov (.const (.bool false)), none⟩])
        (.ret))
       (.skip)))))
   (.reg [⟨some 89, .bin .add .int (.tmp 68) (.const (.int .i64 1)), none⟩,
     ⟨some 68, .mov (.tmp 89), none⟩])))
def ac3 : AC := .seq
 (.reg [⟨some 4, .box 24 3 (.tmp 0), none⟩,
   ⟨some 5, .box 24 3 (.tmp 1), none⟩,
   ⟨some 8, .mov (.const (.bool false)), none⟩])
 (.seq
  (.seq
   (.reg [⟨some 13, .call (.func 13) [], none⟩,
     ⟨some 14, .un .not (.tmp 13), none⟩])
   (.cond (.tmp 14)
    (.seq
     (.reg [⟨some 8, .mov (.const (.bool false)), none⟩])
     (.ret))
    (.skip)))
  (.seq
   (.reg [⟨some 16, .load true 3 (.tmp 4), none⟩,
     ⟨some 17, .load true 3 (.tmp 5), none⟩,
     ⟨some 18, .mov (.tmp 2), none⟩,
     ⟨some 19, .call (.func 14) [(.tmp 16), (.tmp 17), (.tmp 18)], none⟩,
     ⟨some 15, .mov (.tmp 19), none⟩,
     ⟨some 20, .ext (.tmp 15) 0, none⟩,
     ⟨some 21, .ext (.tmp 15) 1, none⟩,
     ⟨some 9, .mov (.tmp 20), none⟩,
     ⟨some 10, .mov (.tmp 21), none⟩])
   (.seq
    (.seq
     (.dreg [⟨some 22, .call (.func 13) [], none⟩,
       ⟨some 23, .un .not (.tmp 22), none⟩,
       ⟨some 24, .mov (.tmp 23), none⟩,
       ⟨some 25, .mov (.tmp 10), some (24, false)⟩,
       ⟨some 26, .mov (.tmp 25), some (24, false)⟩,
       ⟨some 27, .mov (.tmp 9), some (26, true)⟩,
       ⟨some 28, .slen false (.tmp 27), some (26, true)⟩,
       ⟨some 29, .mov (.tmp 2), some (26, true)⟩,
       ⟨some 30, .slen false (.tmp 29), some (26, true)⟩,
       ⟨some 31, .bin .neq .int (.tmp 28) (.tmp 30), some (26, true)⟩,
       ⟨some 32, .mov (.tmp 31), some (26, true)⟩,
       ⟨some 33, .load true 3 (.tmp 5), some (32, false)⟩,
       ⟨some 34, .mov (.tmp 2), some (32, false)⟩,
       ⟨some 35, .mov (.tmp 9), some (32, false)⟩,
       ⟨some 36, .call (.func 16) [(.tmp 33), (.tmp 34), (.tmp 35)], some (32, false)⟩,
       ⟨some 37, .load true 3 (.tmp 4), some (32, false)⟩,
       ⟨some 38, .call (.func 15) [(.tmp 36), (.tmp 37)], some (32, false)⟩,
       ⟨some 39, .un .not (.tmp 38), some (32, false)⟩,
       ⟨some 40, .pick (.tmp 32) (.const (.bool true)) (.tmp 39), some (26, true)⟩,
       ⟨some 41, .pick (.tmp 26) (.tmp 40) (.const (.bool false)), some (24, false)⟩,
       ⟨some 42, .pick (.tmp 24) (.const (.bool true)) (.tmp 41), none⟩]
       [[], [0], [1, 0], [2], [3, 2, 2], [4], [5, 4], [4], [7, 4], [6, 8, 4], [9, 4, 4], [10], [10], [10], [11, 12, 13, 10, 10], [10], [14, 15, 14, 10], [16, 10], [10, 17, 4], [4, 18, 2], [2, 19]]
       [[], [22], [23], [10, 24], [25, 24], [9, 26], [27, 26], [2, 26], [29, 26], [28, 30, 26], [31, 26], [5, 32], [2, 32], [9, 32], [33, 34, 35, 32], [4, 32], [36, 37, 32], [38, 32], [32, 39, 26], [26, 40, 24], [24, 41]])
     (.cond (.tmp 42)
      (.seq
       (.reg [⟨some 8, .mov (.const (.bool false)), none⟩])
       (.ret))
      (.skip)))
    (.seq
     (.seq
      (.reg [⟨some 43, .mov (.tmp 3), none⟩,
        ⟨some 44, .slen false (.tmp 43), none⟩,
        ⟨some 45, .mov (.tmp 2), none⟩,
        ⟨some 46, .slen false (.tmp 45), none⟩,
        ⟨some 47, .bin .lss .int (.tmp 44) (.tmp 46), none⟩])
      (.cond (.tmp 47)
       (.seq
        (.reg [⟨some 48, .mov (.tmp 10), none⟩,
          ⟨some 49, .mov (.tmp 48), none⟩,
          ⟨some 50, .mov (.tmp 9), some (49, false)⟩,
          ⟨some 51, .slen false (.tmp 50), some (49, false)⟩,
          ⟨some 52, .bin .eql .int (.tmp 51) (.const (.int .i64 0)), some (49, false)⟩,
          ⟨some 53, .pick (.tmp 49) (.const (.bool true)) (.tmp 52), none⟩,
          ⟨some 8, .mov (.tmp 53), none⟩])
        (.ret))
       (.skip)))
     (.seq
      (.dreg [⟨some 55, .load true 3 (.tmp 5), none⟩,
        ⟨some 56, .mov (.tmp 2), none⟩,
        ⟨some 57, .mov (.tmp 3), none⟩,
        ⟨some 58, .call (.func 16) [(.tmp 55), (.tmp 56), (.tmp 57)], none⟩,
        ⟨some 59, .load true 3 (.tmp 5), none⟩,
        ⟨some 60, .mov (.tmp 2), none⟩,
        ⟨some 61, .call (.func 14) [(.tmp 58), (.tmp 59), (.tmp 60)], none⟩,
        ⟨some 54, .mov (.tmp 61), none⟩,
        ⟨some 62, .ext (.tmp 54) 0, none⟩,
        ⟨some 63, .ext (.tmp 54) 1, none⟩,
        ⟨some 11, .mov (.tmp 62), none⟩,
        ⟨some 10, .mov (.tmp 63), none⟩]
        [[], [], [], [0, 1, 2], [], [], [3, 4, 5, 3], [6], [7], [7], [8, 6, 0, 1, 2, 3, 4, 5, 6, 7, 8], [9, 10, 0, 1, 2, 3, 4, 5, 6, 7, 8, 9, 10]]
        [[5], [2], [3], [55, 56, 57], [5], [2], [58, 59, 60], [61], [54], [54], [62], [63]])
      (.seq
       (.seq
        (.reg [⟨some 64, .mov (.tmp 10), none⟩,
          ⟨some 65, .un .not (.tmp 64), none⟩])
        (.cond (.tmp 65)
         (.seq
          (.reg [⟨some 8, .mov (.const (.bool false)), none⟩])
          (.ret))
         (.skip)))
       (.seq
        (.seq
         (.reg [⟨some 66, .mov (.tmp 2), none⟩,
           ⟨some 67, .slen false (.tmp 66), none⟩,
           ⟨some 68, .mov (.const (.int .i64 0)), none⟩])
         (.block 0
          (.loop ac3_l0)))
        (.seq
         (.reg [⟨some 8, .mov (.const (.bool true)), none⟩])
         (.ret)))))))))
theorem fn3 : Fun Try.prog 3 90 ac3 [.tmp 8] := ⟨mixedB, Try.f3, _, Try.func3, rfl, by decide +kernel, rfl, by kernel_rfl, by kernel_rfl⟩
/- glossator/glossatorkeep2.SchemeIgnoresAbsentParameters -/
def ac4 : AC := .seq
 (.reg [⟨some 4, .box 24 3 (.tmp 0), none⟩,
   ⟨some 8, .mov (.const (.bool false)), none⟩])
 (.seq
  (.seq
   (.reg [⟨some 10, .call (.func 13) [], none⟩,
     ⟨some 11, .un .not (.tmp 10), none⟩])
   (.cond (.tmp 11)
    (.seq
     (.reg [⟨some 8, .mov (.const (.bool false)), none⟩])
     (.ret))
    (.skip)))
  (.seq
   (.reg [⟨some 12, .mov (.tmp 1), none⟩,
     ⟨some 13, .mkfn 18 [(.tmp 4)], none⟩,
     ⟨some 14, .call (.func 17) [(.tmp 12), (.tmp 13)], none⟩,
     ⟨some 9, .mov (.tmp 14), none⟩])
   (.seq
    (.dreg [⟨some 15, .call (.func 13) [], none⟩,
      ⟨some 16, .mov (.tmp 15), none⟩,
      ⟨some 17, .load true 3 (.tmp 4), some (16, true)⟩,
      ⟨some 18, .mov (.tmp 2), some (16, true)⟩,
      ⟨some 19, .call (.func 16) [(.tmp 17), (.const (.slice none 0 0)), (.tmp 18)], some (16, true)⟩,
      ⟨some 20, .load true 3 (.tmp 4), some (16, true)⟩,
      ⟨some 21, .call (.func 15) [(.tmp 19), (.tmp 20)], some (16, true)⟩,
      ⟨some 22, .pick (.tmp 16) (.tmp 21) (.const (.bool false)), none⟩,
      ⟨some 23, .mov (.tmp 22), none⟩,
      ⟨some 24, .load true 3 (.tmp 4), some (23, true)⟩,
      ⟨some 25, .mov (.tmp 3), some (23, true)⟩,
      ⟨some 26, .call (.func 20) [(.tmp 24), (.const (.slice none 0 0)), (.tmp 25)], some (23, true)⟩,
      ⟨some 27, .load true 3 (.tmp 4), some (23, true)⟩,
      ⟨some 28, .call (.func 15) [(.tmp 26), (.tmp 27)], some (23, true)⟩,
      ⟨some 29, .pick (.tmp 23) (.tmp 28) (.const (.bool false)), none⟩,
      ⟨some 30, .mov (.tmp 29), none⟩,
      ⟨some 31, .mov (.tmp 9), some (30, true)⟩,
      ⟨some 32, .mov (.tmp 31), some (30, true)⟩,
      ⟨some 33, .load true 3 (.tmp 4), some (32, false)⟩,
      ⟨some 34, .mov (.tmp 1), some (32, false)⟩,
      ⟨some 35, .mov (.tmp 2), some (32, false)⟩,
      ⟨some 36, .call (.func 16) [(.tmp 33), (.tmp 34), (.tmp 35)], some (32, false)⟩,
      ⟨some 37, .load true 3 (.tmp 4), some (32, false)⟩,
      ⟨some 38, .call (.func 15) [(.tmp 36), (.tmp 37)], some (32, false)⟩,
      ⟨some 39, .mov (.tmp 38), some (32, false)⟩,
      ⟨some 40, .load true 3 (.tmp 4), some (39, true)⟩,
      ⟨some 41, .mov (.tmp 1), some (39, true)⟩,
      ⟨some 42, .mov (.tmp 3), some (39, true)⟩,
      ⟨some 43, .call (.func 20) [(.tmp 40), (.tmp 41), (.tmp 42)], some (39, true)⟩,
      ⟨some 44, .load true 3 (.tmp 4), some (39, true)⟩,
      ⟨some 45, .call (.func 15) [(.tmp 43), (.tmp 44)], some (39, true)⟩,
      ⟨some 46, .pick (.tmp 39) (.tmp 45) (.const (.bool false)), some (32, false)⟩,
      ⟨some 47, .pick (.tmp 32) (.const (.bool true)) (.tmp 46), some (30, true)⟩,
      ⟨some 48, .pick (.tmp 30) (.tmp 47) (.const (.bool false)), none⟩,
      ⟨some 8, .mov (.tmp 48), none⟩]
      [[], [0, 0], [1], [1], [2, 3, 1, 1], [1], [4, 5, 4, 1], [1, 6], [7, 6], [8], [8], [9, 10, 8, 8], [8], [11, 12, 11, 8], [8, 13], [14, 13], [15], [16, 15, 15], [17], [17], [17], [18, 19, 20, 17, 17], [17], [21, 22, 21, 17], [23, 23, 17], [24], [24], [24], [25, 26, 27, 24, 24], [24], [28, 29, 28, 24], [24, 30, 17], [17, 31, 15], [15, 32], [33, 30, 0, 1, 2, 3, 4, 5, 6, 7, 8, 9, 10, 11, 12, 13, 14, 15, 16, 17, 18, 19, 20, 21, 22, 23, 24, 25, 26, 27, 28, 29, 30, 31, 32, 33]]
      [[], [15], [4, 16], [2, 16], [17, 18, 16], [4, 16], [19, 20, 16], [16, 21], [22], [4, 23], [3, 23], [24, 25, 23], [4, 23], [26, 27, 23], [23, 28], [29], [9, 30], [31, 30], [4, 32], [1, 32], [2, 32], [33, 34, 35, 32], [4, 32], [36, 37, 32], [38, 32], [4, 39], [1, 39], [3, 39], [40, 41, 42, 39], [4, 39], [43, 44, 39], [39, 45, 32], [32, 46, 30], [30, 47], [48]])
    (.ret))))
theorem fn4 : Fun Try.prog 4 49 ac4 [.tmp 8] := ⟨mixedB, Try.f4, _, Try.func4, rfl, by decide +kernel, rfl, by kernel_rfl, by kernel_rfl⟩
/- glossator/glossatorkeep2.SubstituteEliminatesVariable -/
def ac8_l0 : AC := .seq
 (.reg [⟨some 42, .bin .lss .int (.tmp 41) (.tmp 40), none⟩])
 (.seq
  (.cond (.tmp 42)
   (.skip)
   (.exit 0))
  (.seq
   (.block 1
    (.seq
     (.reg [⟨some 43, .iaddr 1 (.tmp 39) (.tmp 41), none⟩,
       ⟨some 44, .load false 1 (.tmp 43), none⟩,
       ⟨some 9, .mov (.tmp 44), none⟩])
     (.seq
      (.reg [⟨some 45, .load true 3 (.tmp 4), none⟩,
        ⟨some 46, .call (.func 36) [(.tmp 45)], none⟩,
        ⟨some 47, .mov (.tmp 9), none⟩,
        ⟨some 48, .call (.func 35) [(.tmp 46), (.tmp 47)], none⟩,
        ⟨some 49, .un .not (.tmp 48), none⟩,
        ⟨some 50, .mov (.tmp 49), none⟩,
        ⟨some 51, .mov (.tmp 9), some (50, true)⟩,
        ⟨some 52, .mov (.tmp 2), some (50, true)⟩,
        ⟨some 53, .bin .eql .int (.tmp 51) (.tmp 52), some (50, true)⟩,
        ⟨some 54, .mov (.tmp 53), some (50, true)⟩,
        ⟨some 55, .load true 3 (.tmp 3), some (54, false)⟩,
        ⟨some 56, .call (.func 36) [(.tmp 55)], some (54, false)⟩,
        ⟨some 57, .mov (.tmp 9), some (54, false)⟩,
        ⟨some 58, .call (.func 35) [(.tmp 56), (.tmp 57)], some (54, false)⟩,
        ⟨some 59, .un .not (.tmp 58), some (54, false)⟩,
        ⟨some 60, .pick (.tmp 54) (.const (.bool true)) (.tmp 59), some (50, true)⟩,
        ⟨some 61, .pick (.tmp 50) (.tmp 60) (.const (.bool false)), none⟩])
      (.cond (.tmp 61)
       (.seq
        (.reg [⟨some 6, .mov (.const (.bool false)), none⟩])
        (.ret))
       (.skip)))))
   (.reg [⟨some 62, .bin .add .int (.tmp 41) (.const (.int .i64 1)), none⟩,
     ⟨some 41, .mov (.tmp 62), none⟩])))
def ac8 : AC := .seq
 (.reg [⟨some 3, .box 24 3 (.tmp 0), none⟩,
   ⟨some 4, .box 24 3 (.tmp 1), none⟩,
   ⟨some 6, .mov (.const (.bool false)), none⟩])
 (.seq
  (.seq
   (.reg [⟨some 10, .call (.func 31) [], none⟩,
     ⟨some 11, .un .not (.tmp 10), none⟩])
   (.cond (.tmp 11)
    (.seq
     (.reg [⟨some 6, .mov (.const (.bool false)), none⟩])
     (.ret))
    (.skip)))
  (.seq
   (.seq
    (.dreg [⟨some 12, .call (.func 31) [], none⟩,
      ⟨some 13, .un .not (.tmp 12), none⟩,
      ⟨some 14, .mov (.tmp 13), none⟩,
      ⟨some 15, .load true 3 (.tmp 3), some (14, false)⟩,
      ⟨some 16, .call (.func 33) [(.tmp 15)], some (14, false)⟩,
      ⟨some 17, .load true 3 (.tmp 4), some (14, false)⟩,
      ⟨some 18, .call (.func 33) [(.tmp 17)], some (14, false)⟩,
      ⟨some 19, .bslice 53 1 [(.int .i64 0)] 2 [(0, (.tmp 16)), (1, (.tmp 18))], some (14, false)⟩,
      ⟨some 20, .call (.func 32) [(.tmp 19)], some (14, false)⟩,
      ⟨some 21, .un .not (.tmp 20), some (14, false)⟩,
      ⟨some 22, .pick (.tmp 14) (.const (.bool true)) (.tmp 21), none⟩]
      [[], [0], [1, 0], [2], [3, 2, 2], [2], [5, 4, 2], [4, 6, 2], [7, 6, 2], [8, 2], [2, 9]]
      [[], [12], [13], [3, 14], [15, 14], [4, 14], [17, 14], [16, 18, 14], [19, 14], [20, 14], [14, 21]])
    (.cond (.tmp 22)
     (.seq
      (.reg [⟨some 23, .call (.func 31) [], none⟩,
        ⟨some 6, .mov (.tmp 23), none⟩])
      (.ret))
     (.skip)))
   (.seq
    (.reg [⟨some 24, .load true 3 (.tmp 3), none⟩,
      ⟨some 25, .mov (.tmp 2), none⟩,
      ⟨some 26, .load true 3 (.tmp 4), none⟩,
      ⟨some 27, .build [(.int .i64 0), (.int .i64 0), (.int .i64 0), (.slice none 0 0)] [(0, 1), (1, 3)] [(0, (.tmp 25)), (1, (.tmp 26))], none⟩,
      ⟨some 28, .bslice 57 4 [(.int .i64 0), (.int .i64 0), (.int .i64 0), (.slice none 0 0)] 1 [(0, (.tmp 27))], none⟩,
      ⟨some 29, .call (.func 34) [(.tmp 24), (.tmp 28)], none⟩,
      ⟨some 7, .alloc 24 3 [(.int .i64 0), (.int .i64 0), (.slice none 0 0)], none⟩,
      ⟨none, .store 3 (.tmp 7) (.tmp 29), none⟩])
    (.seq
     (.seq
      (.reg [⟨some 30, .load true 3 (.tmp 3), none⟩,
        ⟨some 31, .call (.func 36) [(.tmp 30)], none⟩,
        ⟨some 32, .mov (.tmp 2), none⟩,
        ⟨some 33, .call (.func 35) [(.tmp 31), (.tmp 32)], none⟩,
        ⟨some 34, .un .not (.tmp 33), none⟩])
      (.cond (.tmp 34)
       (.seq
        (.reg [⟨some 35, .load true 3 (.tmp 3), none⟩,
          ⟨some 36, .load true 3 (.tmp 7), none⟩,
          ⟨some 37, .call (.func 15) [(.tmp 35), (.tmp 36)], none⟩,
          ⟨some 6, .mov (.tmp 37), none⟩])
        (.ret))
       (.skip)))
     (.seq
      (.seq
       (.reg [⟨some 38, .load true 3 (.tmp 7), none⟩,
         ⟨some 39, .call (.func 36) [(.tmp 38)], none⟩,
         ⟨some 40, .slen false (.tmp 39), none⟩,
         ⟨some 41, .mov (.const (.int .i64 0)), none⟩])
       (.block 0
        (.loop ac8_l0)))
      (.seq
       (.reg [⟨some 6, .mov (.const (.bool true)), none⟩])
       (.ret)))))))
theorem fn8 : Fun Try.prog 8 63 ac8 [.tmp 6] := ⟨mixedB, Try.f8, _, Try.func8, rfl, by decide +kernel, rfl, by kernel_rfl, by kernel_rfl⟩
/- glossator/glossatorkeep2.SubstituteCommutes -/
def ac9 : AC := .seq
 (.reg [⟨some 5, .box 24 3 (.tmp 0), none⟩,
   ⟨some 6, .box 24 3 (.tmp 1), none⟩,
   ⟨some 7, .box 24 3 (.tmp 2), none⟩,
   ⟨some 10, .mov (.const (.bool false)), none⟩])
 (.seq
  (.seq
   (.reg [⟨some 16, .call (.func 31) [], none⟩,
     ⟨some 17, .un .not (.tmp 16), none⟩])
   (.cond (.tmp 17)
    (.seq
     (.reg [⟨some 10, .mov (.const (.bool false)), none⟩])
     (.ret))
    (.skip)))
  (.seq
   (.seq
    (.dreg [⟨some 18, .call (.func 31) [], none⟩,
      ⟨some 19, .un .not (.tmp 18), none⟩,
      ⟨some 20, .mov (.tmp 19), none⟩,
      ⟨some 21, .load true 3 (.tmp 5), some (20, false)⟩,
      ⟨some 22, .call (.func 33) [(.tmp 21)], some (20, false)⟩,
      ⟨some 23, .load true 3 (.tmp 6), some (20, false)⟩,
      ⟨some 24, .call (.func 33) [(.tmp 23)], some (20, false)⟩,
      ⟨some 25, .load true 3 (.tmp 7), some (20, false)⟩,
      ⟨some 26, .call (.func 33) [(.tmp 25)], some (20, false)⟩,
      ⟨some 27, .bslice 53 1 [(.int .i64 0)] 3 [(0, (.tmp 22)), (1, (.tmp 24)), (2, (.tmp 26))], some (20, false)⟩,
      ⟨some 28, .call (.func 32) [(.tmp 27)], some (20, false)⟩,
      ⟨some 29, .un .not (.tmp 28), some (20, false)⟩,
      ⟨some 30, .pick (.tmp 20) (.const (.bool true)) (.tmp 29), none⟩,
      ⟨some 31, .mov (.tmp 30), none⟩,
      ⟨some 32, .mov (.tmp 3), some (31, false)⟩,
      ⟨some 33, .mov (.tmp 4), some (31, false)⟩,
      ⟨some 34, .bin .eql .int (.tmp 32) (.tmp 33), some (31, false)⟩,
      ⟨some 35, .pick (.tmp 31) (.const (.bool true)) (.tmp 34), none⟩,
      ⟨some 36, .mov (.tmp 35), none⟩,
      ⟨some 37, .load true 3 (.tmp 6), some (36, false)⟩,
      ⟨some 38, .call (.func 36) [(.tmp 37)], some (36, false)⟩,
      ⟨some 39, .slen false (.tmp 38), some (36, false)⟩,
      ⟨some 40, .bin .gtr .int (.tmp 39) (.const (.int .i64 0)), some (36, false)⟩,
      ⟨some 41, .pick (.tmp 36) (.const (.bool true)) (.tmp 40), none⟩,
      ⟨some 42, .mov (.tmp 41), none⟩,
      ⟨some 43, .load true 3 (.tmp 7), some (42, false)⟩,
      ⟨some 44, .call (.func 36) [(.tmp 43)], some (42, false)⟩,
      ⟨some 45, .slen false (.tmp 44), some (42, false)⟩,
      ⟨some 46, .bin .gtr .int (.tmp 45) (.const (.int .i64 0)), some (42, false)⟩,
      ⟨some 47, .pick (.tmp 42) (.const (.bool true)) (.tmp 46), none⟩]
      [[], [0], [1, 0], [2], [3, 2, 2], [2], [5, 4, 2], [2], [7, 6, 2], [4, 6, 8, 2], [9, 8, 2], [10, 2], [2, 11], [12, 10], [13], [13], [14, 15, 13], [13, 16], [17, 13], [18], [19, 18, 18], [20, 18], [21, 18], [18, 22], [23, 20], [24], [25, 24, 24], [26, 24], [27, 24], [24, 28]]
      [[], [18], [19], [5, 20], [21, 20], [6, 20], [23, 20], [7, 20], [25, 20], [22, 24, 26, 20], [27, 20], [28, 20], [20, 29], [30], [3, 31], [4, 31], [32, 33, 31], [31, 34], [35], [6, 36], [37, 36], [38, 36], [39, 36], [36, 40], [41], [7, 42], [43, 42], [44, 42], [45, 42], [42, 46]])
    (.cond (.tmp 47)
     (.seq
      (.reg [⟨some 48, .call (.func 31) [], none⟩,
        ⟨some 10, .mov (.tmp 48), none⟩])
      (.ret))
     (.skip)))
   (.seq
    (.dreg [⟨some 49, .mov (.tmp 3), none⟩,
      ⟨some 50, .load true 3 (.tmp 6), none⟩,
      ⟨some 51, .build [(.int .i64 0), (.int .i64 0), (.int .i64 0), (.slice none 0 0)] [(0, 1), (1, 3)] [(0, (.tmp 49)), (1, (.tmp 50))], none⟩,
      ⟨some 52, .mov (.tmp 4), none⟩,
      ⟨some 53, .load true 3 (.tmp 7), none⟩,
      ⟨some 54, .build [(.int .i64 0), (.int .i64 0), (.int .i64 0), (.slice none 0 0)] [(0, 1), (1, 3)] [(0, (.tmp 52)), (1, (.tmp 53))], none⟩,
      ⟨some 11, .alloc 57 4 [(.int .i64 0), (.int .i64 0), (.int .i64 0), (.slice none 0 0)], none⟩,
      ⟨some 12, .alloc 57 4 [(.int .i64 0), (.int .i64 0), (.int .i64 0), (.slice none 0 0)], none⟩,
      ⟨none, .store 4 (.tmp 11) (.tmp 51), none⟩,
      ⟨none, .store 4 (.tmp 12) (.tmp 54), none⟩]
      [[], [], [0, 1], [], [], [3, 4], [], [], [6, 2, 0, 1, 2, 6, 7], [7, 5, 8, 0, 1, 2, 3, 4, 5, 6, 7, 8]]
      [[3], [6], [49, 50], [4], [7], [52, 53], [], [], [11, 51], [12, 54]])
    (.seq
     (.reg [⟨some 55, .load true 3 (.tmp 5), none⟩,
       ⟨some 56, .load true 4 (.tmp 11), none⟩,
       ⟨some 57, .load true 4 (.tmp 12), none⟩,
       ⟨some 58, .bslice 57 4 [(.int .i64 0), (.int .i64 0), (.int .i64 0), (.slice none 0 0)] 2 [(0, (.tmp 56)), (1, (.tmp 57))], none⟩,
       ⟨some 59, .call (.func 34) [(.tmp 55), (.tmp 58)], none⟩,
       ⟨some 13, .alloc 24 3 [(.int .i64 0), (.int .i64 0), (.slice none 0 0)], none⟩,
       ⟨none, .store 3 (.tmp 13) (.tmp 59), none⟩])
     (.seq
      (.dreg [⟨some 60, .load true 3 (.tmp 5), none⟩,
        ⟨some 61, .load true 4 (.tmp 11), none⟩,
        ⟨some 62, .bslice 57 4 [(.int .i64 0), (.int .i64 0), (.int .i64 0), (.slice none 0 0)] 1 [(0, (.tmp 61))], none⟩,
        ⟨some 63, .call (.func 34) [(.tmp 60), (.tmp 62)], none⟩,
        ⟨some 64, .load true 4 (.tmp 12), none⟩,
        ⟨some 65, .bslice 57 4 [(.int .i64 0), (.int .i64 0), (.int .i64 0), (.slice none 0 0)] 1 [(0, (.tmp 64))], none⟩,
        ⟨some 66, .call (.func 34) [(.tmp 63), (.tmp 65)], none⟩,
        ⟨some 14, .alloc 24 3 [(.int .i64 0), (.int .i64 0), (.slice none 0 0)], none⟩,
        ⟨none, .store 3 (.tmp 14) (.tmp 66), none⟩]
        [[], [], [1], [0, 2], [], [4], [3, 5, 3], [], [7, 6, 6, 0, 1, 2, 3, 4, 5, 6, 7]]
        [[5], [11], [61], [60, 62], [12], [64], [63, 65], [], [14, 66]])
      (.seq
       (.dreg [⟨some 67, .load true 3 (.tmp 5), none⟩,
         ⟨some 68, .load true 4 (.tmp 12), none⟩,
         ⟨some 69, .bslice 57 4 [(.int .i64 0), (.int .i64 0), (.int .i64 0), (.slice none 0 0)] 1 [(0, (.tmp 68))], none⟩,
         ⟨some 70, .call (.func 34) [(.tmp 67), (.tmp 69)], none⟩,
         ⟨some 71, .load true 4 (.tmp 11), none⟩,
         ⟨some 72, .bslice 57 4 [(.int .i64 0), (.int .i64 0), (.int .i64 0), (.slice none 0 0)] 1 [(0, (.tmp 71))], none⟩,
         ⟨some 73, .call (.func 34) [(.tmp 70), (.tmp 72)], none⟩,
         ⟨some 15, .alloc 24 3 [(.int .i64 0), (.int .i64 0), (.slice none 0 0)], none⟩,
         ⟨none, .store 3 (.tmp 15) (.tmp 73), none⟩]
         [[], [], [1], [0, 2], [], [4], [3, 5, 3], [], [7, 6, 6, 0, 1, 2, 3, 4, 5, 6, 7]]
         [[5], [12], [68], [67, 69], [11], [71], [70, 72], [], [15, 73]])
       (.seq
        (.reg [⟨some 74, .load true 3 (.tmp 13), none⟩,
          ⟨some 75, .load true 3 (.tmp 14), none⟩,
          ⟨some 76, .call (.func 15) [(.tmp 74), (.tmp 75)], none⟩,
          ⟨some 77, .mov (.tmp 76), none⟩,
          ⟨some 78, .load true 3 (.tmp 13), some (77, true)⟩,
          ⟨some 79, .load true 3 (.tmp 15), some (77, true)⟩,
          ⟨some 80, .call (.func 15) [(.tmp 78), (.tmp 79)], some (77, true)⟩,
          ⟨some 81, .pick (.tmp 77) (.tmp 80) (.const (.bool false)), none⟩,
          ⟨some 10, .mov (.tmp 81), none⟩])
        (.ret))))))))
theorem fn9 : Fun Try.prog 9 82 ac9 [.tmp 10] := ⟨mixedB, Try.f9, _, Try.func9, rfl, by decide +kernel, rfl, by kernel_rfl, by kernel_rfl⟩
/- glossator/glossatorlaw2.TypeOperations -/
def ac10 : AC := .seq
 (.reg [⟨some 3, .box 24 3 (.tmp 0), none⟩,
   ⟨some 4, .box 24 3 (.tmp 1), none⟩,
   ⟨some 6, .mov (.const (.bool false)), none⟩])
 (.seq
  (.seq
   (.reg [⟨some 9, .call (.func 37) [], none⟩,
     ⟨some 10, .un .not (.tmp 9), none⟩])
   (.cond (.tmp 10)
    (.seq
     (.reg [⟨some 6, .mov (.const (.bool false)), none⟩])
     (.ret))
    (.skip)))
  (.seq
   (.seq
    (.reg [⟨some 12, .load true 3 (.tmp 3), none⟩,
      ⟨some 13, .call (.func 38) [(.tmp 12)], none⟩,
      ⟨some 11, .mov (.tmp 13), none⟩,
      ⟨some 14, .ext (.tmp 11) 0, none⟩,
      ⟨some 15, .ext (.tmp 11) 1, none⟩,
      ⟨some 7, .mov (.tmp 14), none⟩,
      ⟨some 8, .mov (.tmp 15), none⟩])
    (.seq
     (.reg [⟨some 16, .mov (.tmp 7), none⟩,
       ⟨some 17, .bin .gtr .int (.tmp 16) (.const (.int .i64 2000)), none⟩])
     (.cond (.tmp 17)
      (.seq
       (.reg [⟨some 6, .mov (.const (.bool true)), none⟩])
       (.ret))
      (.skip))))
   (.seq
    (.seq
     (.dreg [⟨some 18, .load true 3 (.tmp 3), none⟩,
       ⟨some 19, .call (.func 33) [(.tmp 18)], none⟩,
       ⟨some 20, .load true 3 (.tmp 3), none⟩,
       ⟨some 21, .call (.func 39) [(.tmp 20)], none⟩,
       ⟨some 22, .bin .neq .int (.tmp 19) (.tmp 21), none⟩,
       ⟨some 23, .mov (.tmp 22), none⟩,
       ⟨some 24, .load true 3 (.tmp 3), some (23, false)⟩,
       ⟨some 25, .load true 3 (.tmp 4), some (23, false)⟩,
       ⟨some 26, .call (.func 15) [(.tmp 24), (.tmp 25)], some (23, false)⟩,
       ⟨some 27, .load true 3 (.tmp 3), some (23, false)⟩,
       ⟨some 28, .load true 3 (.tmp 4), some (23, false)⟩,
       ⟨some 29, .call (.func 40) [(.tmp 27), (.tmp 28)], some (23, false)⟩,
       ⟨some 30, .bin .neq .bool (.tmp 26) (.tmp 29), some (23, false)⟩,
       ⟨some 31, .pick (.tmp 23) (.const (.bool true)) (.tmp 30), none⟩]
       [[], [0], [], [2, 1], [1, 3], [4, 3], [5], [5], [6, 7, 5, 5], [5], [5], [9, 10, 8, 5], [8, 11, 5], [5, 12]]
       [[3], [18], [3], [20], [19, 21], [22], [3, 23], [4, 23], [24, 25, 23], [3, 23], [4, 23], [27, 28, 23], [26, 29, 23], [23, 30]])
     (.cond (.tmp 31)
      (.seq
       (.reg [⟨some 6, .mov (.const (.bool false)), none⟩])
       (.ret))
      (.skip)))
    (.seq
     (.seq
      (.reg [⟨some 32, .load true 3 (.tmp 3), none⟩,
        ⟨some 33, .call (.func 39) [(.tmp 32)], none⟩,
        ⟨some 34, .bin .neq .int (.tmp 33) (.const (.int .i64 0)), none⟩])
      (.cond (.tmp 34)
       (.seq
        (.reg [⟨some 6, .mov (.const (.bool true)), none⟩])
        (.ret))
       (.skip)))
     (.seq
      (.dreg [⟨some 35, .load true 3 (.tmp 3), none⟩,
        ⟨some 36, .call (.func 36) [(.tmp 35)], none⟩,
        ⟨some 37, .load true 3 (.tmp 3), none⟩,
        ⟨some 38, .call (.func 42) [(.tmp 37)], none⟩,
        ⟨some 39, .call (.func 41) [(.tmp 36), (.tmp 38)], none⟩,
        ⟨some 40, .mov (.tmp 39), none⟩,
        ⟨some 41, .load true 3 (.tmp 3), some (40, true)⟩,
        ⟨some 42, .mov (.tmp 2), some (40, true)⟩,
        ⟨some 43, .call (.func 34) [(.tmp 41), (.tmp 42)], some (40, true)⟩,
        ⟨some 44, .load true 3 (.tmp 3), some (40, true)⟩,
        ⟨some 45, .mov (.tmp 2), some (40, true)⟩,
        ⟨some 46, .call (.func 43) [(.tmp 44), (.tmp 45)], some (40, true)⟩,
        ⟨some 47, .call (.func 40) [(.tmp 43), (.tmp 46)], some (40, true)⟩,
        ⟨some 48, .pick (.tmp 40) (.tmp 47) (.const (.bool false)), none⟩,
        ⟨some 6, .mov (.tmp 48), none⟩]
        [[], [0], [], [2, 1], [1, 3, 3], [4, 4], [5], [5], [6, 7, 5, 5], [5], [5], [9, 10, 8, 5], [8, 11, 11, 5], [5, 12], [13, 12, 0, 1, 2, 3, 4, 5, 6, 7, 8, 9, 10, 11, 12, 13]]
        [[3], [35], [3], [37], [36, 38], [39], [3, 40], [2, 40], [41, 42, 40], [3, 40], [2, 40], [44, 45, 40], [43, 46, 40], [40, 47], [48]])
      (.ret))))))
theorem fn10 : Fun Try.prog 10 49 ac10 [.tmp 6] := ⟨mixedB, Try.f10, _, Try.func10, rfl, by decide +kernel, rfl, by kernel_rfl, by kernel_rfl⟩
/- glossator/glossatorkeep2.schemeWorks -/
def ac13 : AC := .seq
 (.reg [⟨some 0, .mov (.const (.bool false)), none⟩])
 (.seq
  (.reg [⟨some 6, .call (.func 61) [(.const (.int .i64 1))], none⟩,
    ⟨some 7, .call (.func 61) [(.const (.int .i64 1))], none⟩,
    ⟨some 8, .bslice 24 3 [(.int .i64 0), (.int .i64 0), (.slice none 0 0)] 2 [(0, (.tmp 6)), (1, (.tmp 7))], none⟩,
    ⟨some 9, .call (.func 60) [(.const (.int .i64 7)), (.const (.int .i64 5)), (.tmp 8)], none⟩,
    ⟨some 1, .alloc 24 3 [(.int .i64 0), (.int .i64 0), (.slice none 0 0)], none⟩,
    ⟨none, .store 3 (.tmp 1) (.tmp 9), none⟩])
  (.seq
   (.dreg [⟨some 11, .call (.func 62) [], none⟩,
     ⟨some 12, .call (.func 62) [], none⟩,
     ⟨some 13, .bslice 24 3 [(.int .i64 0), (.int .i64 0), (.slice none 0 0)] 2 [(0, (.tmp 11)), (1, (.tmp 12))], none⟩,
     ⟨some 14, .call (.func 60) [(.const (.int .i64 7)), (.const (.int .i64 5)), (.tmp 13)], none⟩,
     ⟨some 15, .load true 3 (.tmp 1), none⟩,
     ⟨some 16, .bslice 3 1 [(.int .i64 0)] 1 [(0, (.const (.int .i64 1)))], none⟩,
     ⟨some 17, .call (.func 14) [(.tmp 14), (.tmp 15), (.tmp 16)], none⟩,
     ⟨some 10, .mov (.tmp 17), none⟩,
     ⟨some 18, .ext (.tmp 10) 0, none⟩,
     ⟨some 19, .ext (.tmp 10) 1, none⟩,
     ⟨some 2, .mov (.tmp 18), none⟩,
     ⟨some 3, .mov (.tmp 19), none⟩]
     [[], [0], [0, 1], [2, 1], [], [], [3, 4, 5, 3], [6], [7], [7], [8, 6, 0, 1, 2, 3, 4, 5, 6, 7, 8], [9, 10, 0, 1, 2, 3, 4, 5, 6, 7, 8, 9, 10]]
     [[], [], [11, 12], [13], [1], [], [14, 15, 16], [17], [10], [10], [18], [19]])
   (.seq
    (.dreg [⟨some 21, .call (.func 62) [], none⟩,
      ⟨some 22, .call (.func 63) [(.const (.int .i64 0))], none⟩,
      ⟨some 23, .bslice 24 3 [(.int .i64 0), (.int .i64 0), (.slice none 0 0)] 2 [(0, (.tmp 21)), (1, (.tmp 22))], none⟩,
      ⟨some 24, .call (.func 60) [(.const (.int .i64 7)), (.const (.int .i64 5)), (.tmp 23)], none⟩,
      ⟨some 25, .load true 3 (.tmp 1), none⟩,
      ⟨some 26, .bslice 3 1 [(.int .i64 0)] 1 [(0, (.const (.int .i64 1)))], none⟩,
      ⟨some 27, .call (.func 14) [(.tmp 24), (.tmp 25), (.tmp 26)], none⟩,
      ⟨some 20, .mov (.tmp 27), none⟩,
      ⟨some 28, .ext (.tmp 20) 0, none⟩,
      ⟨some 29, .ext (.tmp 20) 1, none⟩,
      ⟨some 4, .mov (.tmp 28), none⟩,
      ⟨some 5, .mov (.tmp 29), none⟩]
      [[], [0], [0, 1], [2, 1], [], [], [3, 4, 5, 3], [6], [7], [7], [8, 6, 0, 1, 2, 3, 4, 5, 6, 7, 8], [9, 10, 0, 1, 2, 3, 4, 5, 6, 7, 8, 9, 10]]
      [[], [], [21, 22], [23], [1], [], [24, 25, 26], [27], [20], [20], [28], [29]])
    (.seq
     (.dreg [⟨some 30, .mov (.tmp 3), none⟩,
       ⟨some 31, .mov (.tmp 30), none⟩,
       ⟨some 32, .mov (.tmp 5), some (31, true)⟩,
       ⟨some 33, .un .not (.tmp 32), some (31, true)⟩,
       ⟨some 34, .pick (.tmp 31) (.tmp 33) (.const (.bool false)), none⟩,
       ⟨some 35, .mov (.tmp 34), none⟩,
       ⟨some 36, .mov (.tmp 2), some (35, true)⟩,
       ⟨some 37, .slen false (.tmp 36), some (35, true)⟩,
       ⟨some 38, .bin .eql .int (.tmp 37) (.const (.int .i64 1)), some (35, true)⟩,
       ⟨some 39, .pick (.tmp 35) (.tmp 38) (.const (.bool false)), none⟩,
       ⟨some 40, .mov (.tmp 39), none⟩,
       ⟨some 41, .mov (.tmp 2), some (40, true)⟩,
       ⟨some 42, .iaddr 3 (.tmp 41) (.const (.int .i64 0)), some (40, true)⟩,
       ⟨some 43, .load true 3 (.tmp 42), some (40, true)⟩,
       ⟨some 44, .call (.func 62) [], some (40, true)⟩,
       ⟨some 45, .call (.func 15) [(.tmp 43), (.tmp 44)], some (40, true)⟩,
       ⟨some 46, .pick (.tmp 40) (.tmp 45) (.const (.bool false)), none⟩,
       ⟨some 47, .mov (.tmp 46), none⟩,
       ⟨some 48, .load true 3 (.tmp 1), some (47, true)⟩,
       ⟨some 49, .bslice 3 1 [(.int .i64 0)] 1 [(0, (.const (.int .i64 1)))], some (47, true)⟩,
       ⟨some 50, .call (.func 20) [(.tmp 48), (.tmp 49), (.const (.int .i64 7))], some (47, true)⟩,
       ⟨some 51, .call (.func 63) [(.const (.int .i64 7))], some (47, true)⟩,
       ⟨some 52, .call (.func 63) [(.const (.int .i64 7))], some (47, true)⟩,
       ⟨some 53, .bslice 24 3 [(.int .i64 0), (.int .i64 0), (.slice none 0 0)] 2 [(0, (.tmp 51)), (1, (.tmp 52))], some (47, true)⟩,
       ⟨some 54, .call (.func 60) [(.const (.int .i64 7)), (.const (.int .i64 5)), (.tmp 53)], some (47, true)⟩,
       ⟨some 55, .call (.func 15) [(.tmp 50), (.tmp 54)], some (47, true)⟩,
       ⟨some 56, .pick (.tmp 47) (.tmp 55) (.const (.bool false)), none⟩,
       ⟨some 0, .mov (.tmp 56), none⟩]
       [[], [0], [1], [2, 1], [1, 3], [4, 1], [5], [6, 5], [7, 5], [5, 8], [9, 5], [10], [11, 10], [12, 10], [10, 10], [13, 14, 14, 10], [10, 15], [16, 15], [17], [17], [18, 19, 17, 17], [20, 17], [21, 17], [21, 22, 17], [23, 22, 17], [20, 24, 24, 17], [17, 25], [26, 25, 0, 1, 2, 3, 4, 5, 6, 7, 8, 9, 10, 11, 12, 13, 14, 15, 16, 17, 18, 19, 20, 21, 22, 23, 24, 25, 26]]
       [[3], [30], [5, 31], [32, 31], [31, 33], [34], [2, 35], [36, 35], [37, 35], [35, 38], [39], [2, 40], [41, 40], [42, 40], [40], [43, 44, 40], [40, 45], [46], [1, 47], [47], [48, 49, 47], [47], [47], [51, 52, 47], [53, 47], [50, 54, 47], [47, 55], [56]])
     (.ret)))))
theorem fn13 : Fun Try.prog 13 57 ac13 [.tmp 0] := ⟨mixedB, Try.f13, _, Try.func13, rfl, by decide +kernel, rfl, by kernel_rfl, by kernel_rfl⟩
/- glossator/scheme.Match -/
def ac14 : AC := .seq
 (.reg [⟨some 3, .box 24 3 (.tmp 0), none⟩,
   ⟨some 4, .box 24 3 (.tmp 1), none⟩,
   ⟨some 6, .mov (.const (.slice none 0 0)), none⟩,
   ⟨some 7, .mov (.const (.bool false)), none⟩])
 (.seq
  (.dreg [⟨some 9, .mov (.tmp 2), none⟩,
    ⟨some 10, .mov (.tmp 2), none⟩,
    ⟨some 11, .slen false (.tmp 10), none⟩,
    ⟨some 12, .mkslice 24 3 [(.int .i64 0), (.int .i64 0), (.slice none 0 0)] (.tmp 11) (.tmp 11), none⟩,
    ⟨some 13, .mov (.tmp 2), none⟩,
    ⟨some 14, .slen false (.tmp 13), none⟩,
    ⟨some 15, .mkslice 4 1 [(.bool false)] (.tmp 14) (.tmp 14), none⟩,
    ⟨some 16, .build [(.slice none 0 0), (.slice none 0 0), (.slice none 0 0)] [(0, 1), (1, 1), (2, 1)] [(0, (.tmp 9)), (1, (.tmp 12)), (2, (.tmp 15))], none⟩,
    ⟨some 17, .box 100 3 (.tmp 16), none⟩,
    ⟨some 8, .mov (.tmp 17), none⟩]
    [[], [], [1], [2, 2], [], [4], [5, 5], [0, 3, 6], [7], [8, 0, 1, 2, 3, 4, 5, 6, 7, 8]]
    [[2], [2], [10], [11, 11], [2], [13], [14, 14], [9, 12, 15], [16], [17]])
  (.seq
   (.seq
    (.reg [⟨some 18, .mov (.tmp 8), none⟩,
      ⟨some 19, .load true 3 (.tmp 3), none⟩,
      ⟨some 20, .load true 3 (.tmp 4), none⟩,
      ⟨some 21, .call (.func 64) [(.tmp 18), (.tmp 19), (.tmp 20)], none⟩,
      ⟨some 22, .un .not (.tmp 21), none⟩])
    (.cond (.tmp 22)
     (.seq
      (.reg [⟨some 6, .mov (.const (.slice none 0 0)), none⟩,
        ⟨some 7, .mov (.const (.bool false)), none⟩])
      (.ret))
     (.skip)))
   (.seq
    (.reg [⟨some 23, .mov (.tmp 8), none⟩,
      ⟨some 24, .nilc (.tmp 23), none⟩,
      ⟨some 25, .faddr 1 (.tmp 24), none⟩,
      ⟨some 26, .load false 1 (.tmp 25), none⟩,
      ⟨some 6, .mov (.tmp 26), none⟩,
      ⟨some 7, .mov (.const (.bool true)), none⟩])
    (.ret))))
theorem fn14 : Fun Try.prog 14 27 ac14 [.tmp 6, .tmp 7] := ⟨mixedB, Try.f14, _, Try.func14, rfl, by decide +kernel, rfl, by kernel_rfl, by kernel_rfl⟩
/- glossator/types.Equal -/
def ac15 : AC := .seq
 (.reg [⟨some 2, .box 24 3 (.tmp 0), none⟩,
   ⟨some 3, .box 24 3 (.tmp 1), none⟩,
   ⟨some 4, .mov (.const (.bool false)), none⟩])
 (.seq
  (.reg [⟨some 5, .faddr 0 (.tmp 2), none⟩,
    ⟨some 6, .load false 1 (.tmp 5), none⟩,
    ⟨some 7, .faddr 0 (.tmp 3), none⟩,
    ⟨some 8, .load false 1 (.tmp 7), none⟩,
    ⟨some 9, .bin .eql .int (.tmp 6) (.tmp 8), none⟩,
    ⟨some 10, .mov (.tmp 9), none⟩,
    ⟨some 11, .faddr 1 (.tmp 2), some (10, true)⟩,
    ⟨some 12, .load false 1 (.tmp 11), some (10, true)⟩,
    ⟨some 13, .faddr 1 (.tmp 3), some (10, true)⟩,
    ⟨some 14, .load false 1 (.tmp 13), some (10, true)⟩,
    ⟨some 15, .bin .eql .int (.tmp 12) (.tmp 14), some (10, true)⟩,
    ⟨some 16, .pick (.tmp 10) (.tmp 15) (.const (.bool false)), none⟩,
    ⟨some 17, .mov (.tmp 16), none⟩,
    ⟨some 18, .faddr 2 (.tmp 2), some (17, true)⟩,
    ⟨some 19, .load false 1 (.tmp 18), some (17, true)⟩,
    ⟨some 20, .faddr 2 (.tmp 3), some (17, true)⟩,
    ⟨some 21, .load false 1 (.tmp 20), some (17, true)⟩,
    ⟨some 22, .call (.func 65) [(.tmp 19), (.tmp 21), (.func 15)], some (17, true)⟩,
    ⟨some 23, .pick (.tmp 17) (.tmp 22) (.const (.bool false)), none⟩,
    ⟨some 4, .mov (.tmp 23), none⟩])
  (.ret))
theorem fn15 : Fun Try.prog 15 24 ac15 [.tmp 4] := ⟨mixedB, Try.f15, _, Try.func15, rfl, by decide +kernel, rfl, by kernel_rfl, by kernel_rfl⟩
/- glossator/scheme.Apply -/
def ac16 : AC := .seq
 (.reg [⟨some 3, .box 24 3 (.tmp 0), none⟩,
   ⟨some 4, .box 25 1 (.tmp 1), none⟩,
   ⟨some 5, .box 22 1 (.tmp 2), none⟩,
   ⟨some 6, .alloc 24 3 [(.int .i64 0), (.int .i64 0), (.slice none 0 0)], none⟩])
 (.seq
  (.reg [⟨some 7, .load true 3 (.tmp 3), none⟩,
    ⟨some 8, .mkfn 67 [(.tmp 4), (.tmp 5)], none⟩,
    ⟨some 9, .call (.func 66) [(.tmp 7), (.tmp 8)], none⟩,
    ⟨none, .store 3 (.tmp 6) (.tmp 9), none⟩])
  (.ret))
theorem fn16 : Fun Try.prog 16 10 ac16 [.cell 6 3 true] := ⟨mixedB, Try.f16, _, Try.func16, rfl, by decide +kernel, rfl, by kernel_rfl, by kernel_rfl⟩
/- slices.ContainsFunc[[]int,int] -/
def ac17 : AC := .seq
 (.reg [⟨some 4, .mov (.const (.bool false)), none⟩])
 (.seq
  (.reg [⟨some 5, .mov (.tmp 0), none⟩,
    ⟨some 6, .mov (.tmp 1), none⟩,
    ⟨some 7, .call (.func 70) [(.tmp 5), (.tmp 6)], none⟩,
    ⟨some 8, .bin .geq .int (.tmp 7) (.const (.int .i64 0)), none⟩,
    ⟨some 4, .mov (.tmp 8), none⟩])
  (.ret))
theorem fn17 : Fun Try.prog 17 9 ac17 [.tmp 4] := ⟨mixedB, Try.f17, _, Try.func17, rfl, by decide +kernel, rfl, by kernel_rfl, by kernel_rfl⟩
/- glossator/glossatorkeep2.SchemeIgnoresAbsentParameters$1 -/
def ac18 : AC := .seq
 (.reg [⟨some 3, .mov (.const (.bool false)), none⟩])
 (.seq
  (.reg [⟨some 4, .load true 3 (.tmp 1), none⟩,
    ⟨some 5, .mov (.tmp 0), none⟩,
    ⟨some 6, .call (.func 19) [(.tmp 4), (.tmp 5)], none⟩,
    ⟨some 3, .mov (.tmp 6), none⟩])
  (.ret))
theorem fn18 : Fun Try.prog 18 7 ac18 [.tmp 3] := ⟨mixedB, Try.f18, _, Try.func18, rfl, by decide +kernel, rfl, by kernel_rfl, by kernel_rfl⟩
/- glossator/glossatorkeep2.containsParam -/
def ac19 : AC := .seq
 (.reg [⟨some 2, .box 24 3 (.tmp 0), none⟩,
   ⟨some 3, .box 3 1 (.tmp 1), none⟩,
   ⟨some 4, .mov (.const (.bool false)), none⟩])
 (.seq
  (.reg [⟨some 5, .faddr 0 (.tmp 2), none⟩,
    ⟨some 6, .load false 1 (.tmp 5), none⟩,
    ⟨some 7, .bin .eql .int (.tmp 6) (.const (.int .i64 2)), none⟩,
    ⟨some 8, .mov (.tmp 7), none⟩,
    ⟨some 9, .faddr 1 (.tmp 2), some (8, true)⟩,
    ⟨some 10, .load false 1 (.tmp 9), some (8, true)⟩,
    ⟨some 11, .load false 1 (.tmp 3), some (8, true)⟩,
    ⟨some 12, .bin .eql .int (.tmp 10) (.tmp 11), some (8, true)⟩,
    ⟨some 13, .pick (.tmp 8) (.tmp 12) (.const (.bool false)), none⟩,
    ⟨some 14, .mov (.tmp 13), none⟩,
    ⟨some 15, .faddr 2 (.tmp 2), some (14, false)⟩,
    ⟨some 16, .load false 1 (.tmp 15), some (14, false)⟩,
    ⟨some 17, .mkfn 72 [(.tmp 3)], some (14, false)⟩,
    ⟨some 18, .call (.func 71) [(.tmp 16), (.tmp 17)], some (14, false)⟩,
    ⟨some 19, .pick (.tmp 14) (.const (.bool true)) (.tmp 18), none⟩,
    ⟨some 4, .mov (.tmp 19), none⟩])
  (.ret))
theorem fn19 : Fun Try.prog 19 20 ac19 [.tmp 4] := ⟨mixedB, Try.f19, _, Try.func19, rfl, by decide +kernel, rfl, by kernel_rfl, by kernel_rfl⟩
/- glossator/scheme.Instantiate -/
def ac20 : AC := .seq
 (.reg [⟨some 3, .box 24 3 (.tmp 0), none⟩,
   ⟨some 4, .box 25 1 (.tmp 1), none⟩,
   ⟨some 5, .box 3 1 (.tmp 2), none⟩,
   ⟨some 6, .alloc 24 3 [(.int .i64 0), (.int .i64 0), (.slice none 0 0)], none⟩])
 (.seq
  (.reg [⟨some 7, .load true 3 (.tmp 3), none⟩,
    ⟨some 8, .mkfn 73 [(.tmp 4), (.tmp 5)], none⟩,
    ⟨some 9, .call (.func 66) [(.tmp 7), (.tmp 8)], none⟩,
    ⟨none, .store 3 (.tmp 6) (.tmp 9), none⟩])
  (.ret))
theorem fn20 : Fun Try.prog 20 10 ac20 [.cell 6 3 true] := ⟨mixedB, Try.f20, _, Try.func20, rfl, by decide +kernel, rfl, by kernel_rfl, by kernel_rfl⟩
/- glossator/glossatorkeep2.typesWork -/
def ac31 : AC := .seq
 (.reg [⟨some 0, .mov (.const (.bool false)), none⟩])
 (.seq
  (.reg [⟨some 3, .call (.func 63) [(.const (.int .i64 3))], none⟩,
    ⟨some 4, .call (.func 63) [(.const (.int .i64 1))], none⟩,
    ⟨some 5, .call (.func 63) [(.const (.int .i64 3))], none⟩,
    ⟨some 6, .bslice 24 3 [(.int .i64 0), (.int .i64 0), (.slice none 0 0)] 2 [(0, (.tmp 4)), (1, (.tmp 5))], none⟩,
    ⟨some 7, .call (.func 60) [(.const (.int .i64 7)), (.const (.int .i64 7)), (.tmp 6)], none⟩,
    ⟨some 8, .bslice 24 3 [(.int .i64 0), (.int .i64 0), (.slice none 0 0)] 2 [(0, (.tmp 3)), (1, (.tmp 7))], none⟩,
    ⟨some 9, .call (.func 60) [(.const (.int .i64 9)), (.const (.int .i64 0)), (.tmp 8)], none⟩,
    ⟨some 1, .alloc 24 3 [(.int .i64 0), (.int .i64 0), (.slice none 0 0)], none⟩,
    ⟨none, .store 3 (.tmp 1) (.tmp 9), none⟩])
  (.seq
   (.dreg [⟨some 10, .load true 3 (.tmp 1), none⟩,
     ⟨some 11, .call (.func 62) [], none⟩,
     ⟨some 12, .build [(.int .i64 0), (.int .i64 0), (.int .i64 0), (.slice none 0 0)] [(0, 1), (1, 3)] [(0, (.const (.int .i64 3))), (1, (.tmp 11))], none⟩,
     ⟨some 13, .bslice 57 4 [(.int .i64 0), (.int .i64 0), (.int .i64 0), (.slice none 0 0)] 1 [(0, (.tmp 12))], none⟩,
     ⟨some 14, .call (.func 34) [(.tmp 10), (.tmp 13)], none⟩,
     ⟨some 2, .alloc 24 3 [(.int .i64 0), (.int .i64 0), (.slice none 0 0)], none⟩,
     ⟨none, .store 3 (.tmp 2) (.tmp 14), none⟩]
     [[], [], [1], [2], [0, 3, 1], [], [5, 4, 4, 0, 1, 2, 3, 4, 5]]
     [[1], [], [11], [12], [10, 13], [], [2, 14]])
   (.seq
    (.dreg [⟨some 15, .load true 3 (.tmp 1), none⟩,
      ⟨some 16, .call (.func 33) [(.tmp 15)], none⟩,
      ⟨some 17, .bin .eql .int (.tmp 16) (.const (.int .i64 0)), none⟩,
      ⟨some 18, .mov (.tmp 17), none⟩,
      ⟨some 19, .load true 3 (.tmp 1), some (18, true)⟩,
      ⟨some 20, .call (.func 36) [(.tmp 19)], some (18, true)⟩,
      ⟨some 21, .bslice 3 1 [(.int .i64 0)] 2 [(0, (.const (.int .i64 3))), (1, (.const (.int .i64 1)))], some (18, true)⟩,
      ⟨some 22, .call (.func 41) [(.tmp 20), (.tmp 21)], some (18, true)⟩,
      ⟨some 23, .pick (.tmp 18) (.tmp 22) (.const (.bool false)), none⟩,
      ⟨some 24, .mov (.tmp 23), none⟩,
      ⟨some 25, .load true 3 (.tmp 2), some (24, true)⟩,
      ⟨some 26, .call (.func 36) [(.tmp 25)], some (24, true)⟩,
      ⟨some 27, .bslice 3 1 [(.int .i64 0)] 1 [(0, (.const (.int .i64 1)))], some (24, true)⟩,
      ⟨some 28, .call (.func 41) [(.tmp 26), (.tmp 27)], some (24, true)⟩,
      ⟨some 29, .pick (.tmp 24) (.tmp 28) (.const (.bool false)), none⟩,
      ⟨some 30, .mov (.tmp 29), none⟩,
      ⟨some 31, .faddr 2 (.tmp 2), some (30, true)⟩,
      ⟨some 32, .load false 1 (.tmp 31), some (30, true)⟩,
      ⟨some 33, .iaddr 3 (.tmp 32) (.const (.int .i64 0)), some (30, true)⟩,
      ⟨some 34, .load true 3 (.tmp 33), some (30, true)⟩,
      ⟨some 35, .call (.func 62) [], some (30, true)⟩,
      ⟨some 36, .call (.func 15) [(.tmp 34), (.tmp 35)], some (30, true)⟩,
      ⟨some 37, .pick (.tmp 30) (.tmp 36) (.const (.bool false)), none⟩,
      ⟨some 38, .mov (.tmp 37), none⟩,
      ⟨some 39, .load true 3 (.tmp 1), some (38, true)⟩,
      ⟨some 40, .bslice 24 3 [(.int .i64 0), (.int .i64 0), (.slice none 0 0)] 1 [(0, (.tmp 39))], some (38, true)⟩,
      ⟨some 41, .call (.func 60) [(.const (.int .i64 8)), (.const (.int .i64 2)), (.tmp 40)], some (38, true)⟩,
      ⟨some 42, .call (.func 33) [(.tmp 41)], some (38, true)⟩,
      ⟨some 43, .bin .eql .int (.tmp 42) (.const (.int .i64 3)), some (38, true)⟩,
      ⟨some 44, .pick (.tmp 38) (.tmp 43) (.const (.bool false)), none⟩,
      ⟨some 0, .mov (.tmp 44), none⟩]
      [[], [0], [1], [2, 1], [3], [4, 3, 3], [3], [5, 6, 5, 3], [3, 7], [8, 7], [9], [10, 9, 9], [9], [11, 12, 11, 9], [9, 13], [14, 13], [15], [16, 15], [17, 15], [18, 15], [15, 15], [19, 20, 20, 15], [15, 21], [22, 21], [23], [24, 23], [25, 23, 23], [26, 26, 23], [27, 23], [23, 28], [29, 27, 0, 1, 2, 3, 4, 5, 6, 7, 8, 9, 10, 11, 12, 13, 14, 15, 16, 17, 18, 19, 20, 21, 22, 23, 24, 25, 26, 27, 28, 29]]
      [[1], [15], [16], [17], [1, 18], [19, 18], [18], [20, 21, 18], [18, 22], [23], [2, 24], [25, 24], [24], [26, 27, 24], [24, 28], [29], [2, 30], [31, 30], [32, 30], [33, 30], [30], [34, 35, 30], [30, 36], [37], [1, 38], [39, 38], [40, 38], [41, 38], [42, 38], [38, 43], [44]])
    (.ret))))
theorem fn31 : Fun Try.prog 31 45 ac31 [.tmp 0] := ⟨mixedB, Try.f31, _, Try.func31, rfl, by decide +kernel, rfl, by kernel_rfl, by kernel_rfl⟩
/- glossator/glossatorkeep2.allOK -/
def ac32_l0 : AC := .seq
 (.reg [⟨some 8, .bin .lss .int (.tmp 7) (.tmp 6), none⟩])
 (.seq
  (.cond (.tmp 8)
   (.skip)
   (.exit 0))
  (.seq
   (.block 1
    (.seq
     (.reg [⟨some 9, .iaddr 1 (.tmp 5) (.tmp 7), none⟩,
       ⟨some 10, .load false 1 (.tmp 9), none⟩,
       ⟨some 4, .mov (.tmp 10), none⟩])
     (.seq
      (.reg [⟨some 11, .mov (.tmp 4), none⟩,
        ⟨some 12, .bin .neq .int (.tmp 11) (.const (.int .i64 0)), none⟩])
      (.cond (.tmp 12)
       (.seq
        (.reg [⟨some 2, .mov (.const (.bool false)), none⟩])
        (.ret))
       (.skip)))))
   (.reg [⟨some 13, .bin .add .int (.tmp 7) (.const (.int .i64 1)), none⟩,
     ⟨some 7, .mov (.tmp 13), none⟩])))
def ac32 : AC := .seq
 (.reg [⟨some 2, .mov (.const (.bool false)), none⟩])
 (.seq
  (.seq
   (.reg [⟨some 5, .mov (.tmp 0), none⟩,
     ⟨some 6, .slen false (.tmp 5), none⟩,
     ⟨some 7, .mov (.const (.int .i64 0)), none⟩])
   (.block 0
    (.loop ac32_l0)))
  (.seq
   (.reg [⟨some 2, .mov (.const (.bool true)), none⟩])
   (.ret)))
theorem fn32 : Fun Try.prog 32 14 ac32 [.tmp 2] := ⟨mixedB, Try.f32, _, Try.func32, rfl, by decide +kernel, rfl, by kernel_rfl, by kernel_rfl⟩
/- glossator/types.Validate -/
def ac33 : AC := .seq
 (.reg [⟨some 1, .box 24 3 (.tmp 0), none⟩,
   ⟨some 2, .mov (.const (.int .i64 0)), none⟩])
 (.seq
  (.seq
   (.reg [⟨some 6, .load true 3 (.tmp 1), none⟩,
     ⟨some 7, .call (.func 81) [(.tmp 6), (.const (.int .i64 100))], none⟩,
     ⟨some 5, .mov (.tmp 7), none⟩,
     ⟨some 8, .ext (.tmp 5) 0, none⟩,
     ⟨some 9, .ext (.tmp 5) 1, none⟩,
     ⟨some 3, .mov (.tmp 8), none⟩,
     ⟨some 4, .mov (.tmp 9), none⟩])
   (.seq
    (.reg [⟨some 10, .mov (.tmp 3), none⟩,
      ⟨some 11, .bin .gtr .int (.tmp 10) (.const (.int .i64 100)), none⟩,
      ⟨some 12, .mov (.tmp 11), none⟩,
      ⟨some 13, .mov (.tmp 4), some (12, false)⟩,
      ⟨some 14, .bin .gtr .int (.tmp 13) (.const (.int .i64 12)), some (12, false)⟩,
      ⟨some 15, .pick (.tmp 12) (.const (.bool true)) (.tmp 14), none⟩])
    (.cond (.tmp 15)
     (.seq
      (.reg [⟨some 2, .mov (.const (.int .i64 2)), none⟩])
      (.ret))
     (.skip))))
  (.seq
   (.seq
    (.reg [⟨some 16, .load true 3 (.tmp 1), none⟩,
      ⟨some 17, .call (.func 82) [(.tmp 16)], none⟩,
      ⟨some 18, .un .not (.tmp 17), none⟩])
    (.cond (.tmp 18)
     (.seq
      (.reg [⟨some 2, .mov (.const (.int .i64 3)), none⟩])
      (.ret))
     (.skip)))
   (.seq
    (.reg [⟨some 2, .mov (.const (.int .i64 0)), none⟩])
    (.ret))))
theorem fn33 : Fun Try.prog 33 19 ac33 [.tmp 2] := ⟨mixedB, Try.f33, _, Try.func33, rfl, by decide +kernel, rfl, by kernel_rfl, by kernel_rfl⟩
/- glossator/types.Substitute -/
def ac34 : AC := .seq
 (.reg [⟨some 2, .box 24 3 (.tmp 0), none⟩,
   ⟨some 3, .box 58 1 (.tmp 1), none⟩,
   ⟨some 4, .alloc 24 3 [(.int .i64 0), (.int .i64 0), (.slice none 0 0)], none⟩])
 (.seq
  (.reg [⟨some 5, .load true 3 (.tmp 2), none⟩,
    ⟨some 6, .mkfn 83 [(.tmp 3)], none⟩,
    ⟨some 7, .call (.func 66) [(.tmp 5), (.tmp 6)], none⟩,
    ⟨none, .store 3 (.tmp 4) (.tmp 7), none⟩])
  (.ret))
theorem fn34 : Fun Try.prog 34 8 ac34 [.cell 4 3 true] := ⟨mixedB, Try.f34, _, Try.func34, rfl, by decide +kernel, rfl, by kernel_rfl, by kernel_rfl⟩
/- slices.Contains[[]int,int] -/
def ac35 : AC := .seq
 (.reg [⟨some 4, .mov (.const (.bool false)), none⟩])
 (.seq
  (.reg [⟨some 5, .mov (.tmp 0), none⟩,
    ⟨some 6, .mov (.tmp 1), none⟩,
    ⟨some 7, .call (.func 68) [(.tmp 5), (.tmp 6)], none⟩,
    ⟨some 8, .bin .geq .int (.tmp 7) (.const (.int .i64 0)), none⟩,
    ⟨some 4, .mov (.tmp 8), none⟩])
  (.ret))
theorem fn35 : Fun Try.prog 35 9 ac35 [.tmp 4] := ⟨mixedB, Try.f35, _, Try.func35, rfl, by decide +kernel, rfl, by kernel_rfl, by kernel_rfl⟩
/- glossator/types.FreeVars -/
def ac36 : AC := .seq
 (.reg [⟨some 1, .box 24 3 (.tmp 0), none⟩,
   ⟨some 2, .mov (.const (.slice none 0 0)), none⟩])
 (.seq
  (.reg [⟨some 3, .load true 3 (.tmp 1), none⟩,
    ⟨some 4, .call (.func 86) [(.const (.slice none 0 0)), (.tmp 3)], none⟩,
    ⟨some 2, .mov (.tmp 4), none⟩])
  (.ret))
theorem fn36 : Fun Try.prog 36 5 ac36 [.tmp 2] := ⟨mixedB, Try.f36, _, Try.func36, rfl, by decide +kernel, rfl, by kernel_rfl, by kernel_rfl⟩
/- glossator/glossatorlaw2.typesWork -/
def ac37 : AC := .seq
 (.reg [⟨some 0, .mov (.const (.bool false)), none⟩])
 (.seq
  (.reg [⟨some 3, .call (.func 88) [(.const (.int .i64 3))], none⟩,
    ⟨some 4, .call (.func 88) [(.const (.int .i64 1))], none⟩,
    ⟨some 5, .call (.func 88) [(.const (.int .i64 3))], none⟩,
    ⟨some 6, .bslice 24 3 [(.int .i64 0), (.int .i64 0), (.slice none 0 0)] 2 [(0, (.tmp 4)), (1, (.tmp 5))], none⟩,
    ⟨some 7, .call (.func 87) [(.const (.int .i64 7)), (.const (.int .i64 7)), (.tmp 6)], none⟩,
    ⟨some 8, .bslice 24 3 [(.int .i64 0), (.int .i64 0), (.slice none 0 0)] 2 [(0, (.tmp 3)), (1, (.tmp 7))], none⟩,
    ⟨some 9, .call (.func 87) [(.const (.int .i64 9)), (.const (.int .i64 0)), (.tmp 8)], none⟩,
    ⟨some 1, .alloc 24 3 [(.int .i64 0), (.int .i64 0), (.slice none 0 0)], none⟩,
    ⟨none, .store 3 (.tmp 1) (.tmp 9), none⟩])
  (.seq
   (.dreg [⟨some 10, .load true 3 (.tmp 1), none⟩,
     ⟨some 11, .call (.func 89) [], none⟩,
     ⟨some 12, .build [(.int .i64 0), (.int .i64 0), (.int .i64 0), (.slice none 0 0)] [(0, 1), (1, 3)] [(0, (.const (.int .i64 3))), (1, (.tmp 11))], none⟩,
     ⟨some 13, .bslice 57 4 [(.int .i64 0), (.int .i64 0), (.int .i64 0), (.slice none 0 0)] 1 [(0, (.tmp 12))], none⟩,
     ⟨some 14, .call (.func 34) [(.tmp 10), (.tmp 13)], none⟩,
     ⟨some 2, .alloc 24 3 [(.int .i64 0), (.int .i64 0), (.slice none 0 0)], none⟩,
     ⟨none, .store 3 (.tmp 2) (.tmp 14), none⟩]
     [[], [], [1], [2], [0, 3, 1], [], [5, 4, 4, 0, 1, 2, 3, 4, 5]]
     [[1], [], [11], [12], [10, 13], [], [2, 14]])
   (.seq
    (.dreg [⟨some 15, .load true 3 (.tmp 1), none⟩,
      ⟨some 16, .call (.func 33) [(.tmp 15)], none⟩,
      ⟨some 17, .bin .eql .int (.tmp 16) (.const (.int .i64 0)), none⟩,
      ⟨some 18, .mov (.tmp 17), none⟩,
      ⟨some 19, .load true 3 (.tmp 1), some (18, true)⟩,
      ⟨some 20, .call (.func 36) [(.tmp 19)], some (18, true)⟩,
      ⟨some 21, .bslice 3 1 [(.int .i64 0)] 2 [(0, (.const (.int .i64 3))), (1, (.const (.int .i64 1)))], some (18, true)⟩,
      ⟨some 22, .call (.func 41) [(.tmp 20), (.tmp 21)], some (18, true)⟩,
      ⟨some 23, .pick (.tmp 18) (.tmp 22) (.const (.bool false)), none⟩,
      ⟨some 24, .mov (.tmp 23), none⟩,
      ⟨some 25, .load true 3 (.tmp 2), some (24, true)⟩,
      ⟨some 26, .call (.func 36) [(.tmp 25)], some (24, true)⟩,
      ⟨some 27, .bslice 3 1 [(.int .i64 0)] 1 [(0, (.const (.int .i64 1)))], some (24, true)⟩,
      ⟨some 28, .call (.func 41) [(.tmp 26), (.tmp 27)], some (24, true)⟩,
      ⟨some 29, .pick (.tmp 24) (.tmp 28) (.const (.bool false)), none⟩,
      ⟨some 30, .mov (.tmp 29), none⟩,
      ⟨some 31, .faddr 2 (.tmp 2), some (30, true)⟩,
      ⟨some 32, .load false 1 (.tmp 31), some (30, true)⟩,
      ⟨some 33, .iaddr 3 (.tmp 32) (.const (.int .i64 0)), some (30, true)⟩,
      ⟨some 34, .load true 3 (.tmp 33), some (30, true)⟩,
      ⟨some 35, .call (.func 89) [], some (30, true)⟩,
      ⟨some 36, .call (.func 15) [(.tmp 34), (.tmp 35)], some (30, true)⟩,
      ⟨some 37, .pick (.tmp 30) (.tmp 36) (.const (.bool false)), none⟩,
      ⟨some 38, .mov (.tmp 37), none⟩,
      ⟨some 39, .load true 3 (.tmp 1), some (38, true)⟩,
      ⟨some 40, .bslice 24 3 [(.int .i64 0), (.int .i64 0), (.slice none 0 0)] 1 [(0, (.tmp 39))], some (38, true)⟩,
      ⟨some 41, .call (.func 87) [(.const (.int .i64 8)), (.const (.int .i64 2)), (.tmp 40)], some (38, true)⟩,
      ⟨some 42, .call (.func 33) [(.tmp 41)], some (38, true)⟩,
      ⟨some 43, .bin .eql .int (.tmp 42) (.const (.int .i64 3)), some (38, true)⟩,
      ⟨some 44, .pick (.tmp 38) (.tmp 43) (.const (.bool false)), none⟩,
      ⟨some 0, .mov (.tmp 44), none⟩]
      [[], [0], [1], [2, 1], [3], [4, 3, 3], [3], [5, 6, 5, 3], [3, 7], [8, 7], [9], [10, 9, 9], [9], [11, 12, 11, 9], [9, 13], [14, 13], [15], [16, 15], [17, 15], [18, 15], [15, 15], [19, 20, 20, 15], [15, 21], [22, 21], [23], [24, 23], [25, 23, 23], [26, 26, 23], [27, 23], [23, 28], [29, 27, 0, 1, 2, 3, 4, 5, 6, 7, 8, 9, 10, 11, 12, 13, 14, 15, 16, 17, 18, 19, 20, 21, 22, 23, 24, 25, 26, 27, 28, 29]]
      [[1], [15], [16], [17], [1, 18], [19, 18], [18], [20, 21, 18], [18, 22], [23], [2, 24], [25, 24], [24], [26, 27, 24], [24, 28], [29], [2, 30], [31, 30], [32, 30], [33, 30], [30], [34, 35, 30], [30, 36], [37], [1, 38], [39, 38], [40, 38], [41, 38], [42, 38], [38, 43], [44]])
    (.ret))))
theorem fn37 : Fun Try.prog 37 45 ac37 [.tmp 0] := ⟨mixedB, Try.f37, _, Try.func37, rfl, by decide +kernel, rfl, by kernel_rfl, by kernel_rfl⟩
/- glossator/glossatorref2.TypeSize -/
def ac38_l0 : AC := .seq
 (.reg [⟨some 12, .bin .lss .int (.tmp 11) (.tmp 10), none⟩])
 (.seq
  (.cond (.tmp 12)
   (.skip)
   (.exit 0))
  (.seq
   (.block 1
    (.seq
     (.reg [⟨some 13, .iaddr 3 (.tmp 9) (.tmp 11), none⟩,
       ⟨some 14, .load true 3 (.tmp 13), none⟩,
       ⟨some 5, .alloc 24 3 [(.int .i64 0), (.int .i64 0), (.slice none 0 0)], none⟩,
       ⟨none, .store 3 (.tmp 5) (.tmp 14), none⟩])
     (.seq
      (.reg [⟨some 16, .load true 3 (.tmp 5), none⟩,
        ⟨some 17, .call (.func 38) [(.tmp 16)], none⟩,
        ⟨some 15, .mov (.tmp 17), none⟩,
        ⟨some 18, .ext (.tmp 15) 0, none⟩,
        ⟨some 19, .ext (.tmp 15) 1, none⟩,
        ⟨some 6, .mov (.tmp 18), none⟩,
        ⟨some 7, .mov (.tmp 19), none⟩])
      (.seq
       (.reg [⟨some 20, .mov (.tmp 2), none⟩,
         ⟨some 21, .mov (.tmp 6), none⟩,
         ⟨some 22, .bin .add .int (.tmp 20) (.tmp 21), none⟩,
         ⟨some 2, .mov (.tmp 22), none⟩])
       (.reg [⟨some 23, .mov (.tmp 3), none⟩,
         ⟨some 24, .mov (.tmp 7), none⟩,
         ⟨some 25, .bin .add .int (.tmp 24) (.const (.int .i64 1)), none⟩,
         ⟨some 26, .minmax false (.tmp 23) (.tmp 25), none⟩,
         ⟨some 3, .mov (.tmp 26), none⟩])))))
   (.reg [⟨some 27, .bin .add .int (.tmp 11) (.const (.int .i64 1)), none⟩,
     ⟨some 11, .mov (.tmp 27), none⟩])))
def ac38 : AC := .seq
 (.reg [⟨some 1, .box 24 3 (.tmp 0), none⟩,
   ⟨some 2, .mov (.const (.int .i64 0)), none⟩,
   ⟨some 3, .mov (.const (.int .i64 0)), none⟩])
 (.seq
  (.reg [⟨some 2, .mov (.const (.int .i64 1)), none⟩,
    ⟨some 3, .mov (.const (.int .i64 1)), none⟩])
  (.seq
   (.seq
    (.reg [⟨some 8, .faddr 2 (.tmp 1), none⟩,
      ⟨some 9, .load false 1 (.tmp 8), none⟩,
      ⟨some 10, .slen false (.tmp 9), none⟩,
      ⟨some 11, .mov (.const (.int .i64 0)), none⟩])
    (.block 0
     (.loop ac38_l0)))
   (.seq
    (.reg [⟨some 28, .mov (.tmp 2), none⟩,
      ⟨some 29, .mov (.tmp 3), none⟩,
      ⟨some 2, .mov (.tmp 28), none⟩,
      ⟨some 3, .mov (.tmp 29), none⟩])
    (.ret))))
theorem fn38 : Fun Try.prog 38 30 ac38 [.tmp 2, .tmp 3] := ⟨mixedB, Try.f38, _, Try.func38, rfl, by decide +kernel, rfl, by kernel_rfl, by kernel_rfl⟩
/- glossator/glossatorref2.TypeError -/
def ac39 : AC := .seq
 (.reg [⟨some 1, .box 24 3 (.tmp 0), none⟩,
   ⟨some 2, .mov (.const (.int .i64 0)), none⟩])
 (.seq
  (.reg [⟨some 6, .load true 3 (.tmp 1), none⟩,
    ⟨some 7, .call (.func 38) [(.tmp 6)], none⟩,
    ⟨some 5, .mov (.tmp 7), none⟩,
    ⟨some 8, .ext (.tmp 5) 0, none⟩,
    ⟨some 9, .ext (.tmp 5) 1, none⟩,
    ⟨some 3, .mov (.tmp 8), none⟩,
    ⟨some 4, .mov (.tmp 9), none⟩])
  (.seq
   (.seq
    (.reg [⟨some 10, .mov (.tmp 3), none⟩,
      ⟨some 11, .bin .gtr .int (.tmp 10) (.const (.int .i64 100)), none⟩,
      ⟨some 12, .mov (.tmp 11), none⟩,
      ⟨some 13, .mov (.tmp 4), some (12, false)⟩,
      ⟨some 14, .bin .gtr .int (.tmp 13) (.const (.int .i64 12)), some (12, false)⟩,
      ⟨some 15, .pick (.tmp 12) (.const (.bool true)) (.tmp 14), none⟩])
    (.cond (.tmp 15)
     (.seq
      (.reg [⟨some 2, .mov (.const (.int .i64 2)), none⟩])
      (.ret))
     (.skip)))
   (.seq
    (.seq
     (.reg [⟨some 16, .load true 3 (.tmp 1), none⟩,
       ⟨some 17, .call (.func 90) [(.tmp 16)], none⟩,
       ⟨some 18, .un .not (.tmp 17), none⟩])
     (.cond (.tmp 18)
      (.seq
       (.reg [⟨some 2, .mov (.const (.int .i64 3)), none⟩])
       (.ret))
      (.skip)))
    (.seq
     (.reg [⟨some 2, .mov (.const (.int .i64 0)), none⟩])
     (.ret)))))
theorem fn39 : Fun Try.prog 39 19 ac39 [.tmp 2] := ⟨mixedB, Try.f39, _, Try.func39, rfl, by decide +kernel, rfl, by kernel_rfl, by kernel_rfl⟩
/- glossator/glossatorref2.TypesEqual -/
def ac40_l0 : AC := .seq
 (.reg [⟨some 31, .bin .lss .int (.tmp 30) (.tmp 29), none⟩])
 (.seq
  (.cond (.tmp 31)
   (.skip)
   (.exit 0))
  (.seq
   (.block 1
    (.seq
     (.reg [⟨some 32, .mov (.tmp 30), none⟩,
       ⟨some 5, .mov (.tmp 32), none⟩])
     (.seq
      (.dreg [⟨some 33, .faddr 2 (.tmp 2), none⟩,
        ⟨some 34, .load false 1 (.tmp 33), none⟩,
        ⟨some 35, .mov (.tmp 5), none⟩,
        ⟨some 36, .iaddr 3 (.tmp 34) (.tmp 35), none⟩,
        ⟨some 37, .load true 3 (.tmp 36), none⟩,
        ⟨some 38, .faddr 2 (.tmp 3), none⟩,
        ⟨some 39, .load false 1 (.tmp 38), none⟩,
        ⟨some 40, .mov (.tmp 5), none⟩,
        ⟨some 41, .iaddr 3 (.tmp 39) (.tmp 40), none⟩,
        ⟨some 42, .load true 3 (.tmp 41), none⟩,
        ⟨some 43, .call (.func 40) [(.tmp 37), (.tmp 42)], none⟩,
        ⟨some 44, .un .not (.tmp 43), none⟩]
        [[], [0], [], [1, 2], [3], [], [5], [], [6, 7], [8], [4, 9], [10]]
        [[2], [33], [5], [34, 35], [36], [3], [38], [5], [39, 40], [41], [37, 42], [43]])
      (.cond (.tmp 44)
       (.seq
        (.reg [⟨some 4, .mov (.const (.bool false)), none⟩])
        (.ret))
       (.skip)))))
   (.reg [⟨some 45, .bin .add .int (.tmp 30) (.const (.int .i64 1)), none⟩,
     ⟨some 30, .mov (.tmp 45), none⟩])))
def ac40 : AC := .seq
 (.reg [⟨some 2, .box 24 3 (.tmp 0), none⟩,
   ⟨some 3, .box 24 3 (.tmp 1), none⟩,
   ⟨some 4, .mov (.const (.bool false)), none⟩])
 (.seq
  (.seq
   (.reg [⟨some 6, .faddr 0 (.tmp 2), none⟩,
     ⟨some 7, .load false 1 (.tmp 6), none⟩,
     ⟨some 8, .faddr 0 (.tmp 3), none⟩,
     ⟨some 9, .load false 1 (.tmp 8), none⟩,
     ⟨some 10, .bin .neq .int (.tmp 7) (.tmp 9), none⟩,
     ⟨some 11, .mov (.tmp 10), none⟩,
     ⟨some 12, .faddr 1 (.tmp 2), some (11, false)⟩,
     ⟨some 13, .load false 1 (.tmp 12), some (11, false)⟩,
     ⟨some 14, .faddr 1 (.tmp 3), some (11, false)⟩,
     ⟨some 15, .load false 1 (.tmp 14), some (11, false)⟩,
     ⟨some 16, .bin .neq .int (.tmp 13) (.tmp 15), some (11, false)⟩,
     ⟨some 17, .pick (.tmp 11) (.const (.bool true)) (.tmp 16), none⟩,
     ⟨some 18, .mov (.tmp 17), none⟩,
     ⟨some 19, .faddr 2 (.tmp 2), some (18, false)⟩,
     ⟨some 20, .load false 1 (.tmp 19), some (18, false)⟩,
     ⟨some 21, .slen false (.tmp 20), some (18, false)⟩,
     ⟨some 22, .faddr 2 (.tmp 3), some (18, false)⟩,
     ⟨some 23, .load false 1 (.tmp 22), some (18, false)⟩,
     ⟨some 24, .slen false (.tmp 23), some (18, false)⟩,
     ⟨some 25, .bin .neq .int (.tmp 21) (.tmp 24), some (18, false)⟩,
     ⟨some 26, .pick (.tmp 18) (.const (.bool true)) (.tmp 25), none⟩])
   (.cond (.tmp 26)
    (.seq
     (.reg [⟨some 4, .mov (.const (.bool false)), none⟩])
     (.ret))
    (.skip)))
  (.seq
   (.seq
    (.reg [⟨some 27, .faddr 2 (.tmp 2), none⟩,
      ⟨some 28, .load false 1 (.tmp 27), none⟩,
      ⟨some 29, .slen false (.tmp 28), none⟩,
      ⟨some 30, .mov (.const (.int .i64 0)), none⟩])
    (.block 0
     (.loop ac40_l0)))
   (.seq
    (.reg [⟨some 4, .mov (.const (.bool true)), none⟩])
    (.ret))))
theorem fn40 : Fun Try.prog 40 46 ac40 [.tmp 4] := ⟨mixedB, Try.f40, _, Try.func40, rfl, by decide +kernel, rfl, by kernel_rfl, by kernel_rfl⟩
/- slices.Equal[[]int,int] -/
def ac41_l0 : AC := .seq
 (.reg [⟨some 14, .bin .lss .int (.tmp 13) (.tmp 12), none⟩])
 (.seq
  (.cond (.tmp 14)
   (.skip)
   (.exit 0))
  (.seq
   (.block 1
    (.seq
     (.reg [⟨some 15, .mov (.tmp 13), none⟩,
       ⟨some 5, .mov (.tmp 15), none⟩])
     (.seq
      (.dreg [⟨some 16, .mov (.tmp 0), none⟩,
        ⟨some 17, .mov (.tmp 5), none⟩,
        ⟨some 18, .iaddr 1 (.tmp 16) (.tmp 17), none⟩,
        ⟨some 19, .load false 1 (.tmp 18), none⟩,
        ⟨some 20, .mov (.tmp 1), none⟩,
        ⟨some 21, .mov (.tmp 5), none⟩,
        ⟨some 22, .iaddr 1 (.tmp 20) (.tmp 21), none⟩,
        ⟨some 23, .load false 1 (.tmp 22), none⟩,
        ⟨some 24, .bin .neq .int (.tmp 19) (.tmp 23), none⟩]
        [[], [], [0, 1], [2], [], [], [4, 5], [6], [3, 7]]
        [[0], [5], [16, 17], [18], [1], [5], [20, 21], [22], [19, 23]])
      (.cond (.tmp 24)
       (.seq
        (.reg [⟨some 4, .mov (.const (.bool false)), none⟩])
        (.ret))
       (.skip)))))
   (.reg [⟨some 25, .bin .add .int (.tmp 13) (.const (.int .i64 1)), none⟩,
     ⟨some 13, .mov (.tmp 25), none⟩])))
def ac41 : AC := .seq
 (.reg [⟨some 4, .mov (.const (.bool false)), none⟩])
 (.seq
  (.seq
   (.reg [⟨some 6, .mov (.tmp 0), none⟩,
     ⟨some 7, .slen false (.tmp 6), none⟩,
     ⟨some 8, .mov (.tmp 1), none⟩,
     ⟨some 9, .slen false (.tmp 8), none⟩,
     ⟨some 10, .bin .neq .int (.tmp 7) (.tmp 9), none⟩])
   (.cond (.tmp 10)
    (.seq
     (.reg [⟨some 4, .mov (.const (.bool false)), none⟩])
     (.ret))
    (.skip)))
  (.seq
   (.seq
    (.reg [⟨some 11, .mov (.tmp 0), none⟩,
      ⟨some 12, .slen false (.tmp 11), none⟩,
      ⟨some 13, .mov (.const (.int .i64 0)), none⟩])
    (.block 0
     (.loop ac41_l0)))
   (.seq
    (.reg [⟨some 4, .mov (.const (.bool true)), none⟩])
    (.ret))))
theorem fn41 : Fun Try.prog 41 26 ac41 [.tmp 4] := ⟨mixedB, Try.f41, _, Try.func41, rfl, by decide +kernel, rfl, by kernel_rfl, by kernel_rfl⟩
/- glossator/glossatorref2.VarsOf -/
def ac42_l0 : AC := .seq
 (.reg [⟨some 25, .bin .lss .int (.tmp 24) (.tmp 23), none⟩])
 (.seq
  (.cond (.tmp 25)
   (.skip)
   (.exit 2))
  (.seq
   (.block 3
    (.seq
     (.reg [⟨some 26, .iaddr 1 (.tmp 22) (.tmp 24), none⟩,
       ⟨some 27, .load false 1 (.tmp 26), none⟩,
       ⟨some 7, .mov (.tmp 27), none⟩])
     (.seq
      (.reg [⟨some 28, .mov (.tmp 3), none⟩,
        ⟨some 29, .mov (.tmp 7), none⟩,
        ⟨some 30, .call (.func 91) [(.tmp 28), (.tmp 29)], none⟩,
        ⟨some 31, .un .not (.tmp 30), none⟩])
      (.cond (.tmp 31)
       (.reg [⟨some 32, .mov (.tmp 3), none⟩,
         ⟨some 33, .mov (.tmp 7), none⟩,
         ⟨some 34, .bslice 3 1 [(.int .i64 0)] 1 [(0, (.tmp 33))], none⟩,
         ⟨some 35, .app 3 1 (.tmp 32) (.tmp 34), none⟩,
         ⟨some 3, .mov (.tmp 35), none⟩])
       (.skip)))))
   (.reg [⟨some 36, .bin .add .int (.tmp 24) (.const (.int .i64 1)), none⟩,
     ⟨some 24, .mov (.tmp 36), none⟩])))
def ac42_l1 : AC := .seq
 (.reg [⟨some 18, .bin .lss .int (.tmp 17) (.tmp 16), none⟩])
 (.seq
  (.cond (.tmp 18)
   (.skip)
   (.exit 0))
  (.seq
   (.block 1
    (.seq
     (.reg [⟨some 19, .iaddr 3 (.tmp 15) (.tmp 17), none⟩,
       ⟨some 20, .load true 3 (.tmp 19), none⟩,
       ⟨some 5, .alloc 24 3 [(.int .i64 0), (.int .i64 0), (.slice none 0 0)], none⟩,
       ⟨none, .store 3 (.tmp 5) (.tmp 20), none⟩])
     (.seq
      (.reg [⟨some 21, .load true 3 (.tmp 5), none⟩,
        ⟨some 22, .call (.func 42) [(.tmp 21)], none⟩,
        ⟨some 23, .slen false (.tmp 22), none⟩,
        ⟨some 24, .mov (.const (.int .i64 0)), none⟩])
      (.block 2
       (.loop ac42_l0)))))
   (.reg [⟨some 37, .bin .add .int (.tmp 17) (.const (.int .i64 1)), none⟩,
     ⟨some 17, .mov (.tmp 37), none⟩])))
def ac42 : AC := .seq
 (.reg [⟨some 1, .box 24 3 (.tmp 0), none⟩,
   ⟨some 2, .mov (.const (.slice none 0 0)), none⟩])
 (.seq
  (.seq
   (.reg [⟨some 8, .faddr 0 (.tmp 1), none⟩,
     ⟨some 9, .load false 1 (.tmp 8), none⟩,
     ⟨some 10, .bin .eql .int (.tmp 9) (.const (.int .i64 1)), none⟩])
   (.cond (.tmp 10)
    (.seq
     (.reg [⟨some 11, .faddr 1 (.tmp 1), none⟩,
       ⟨some 12, .load false 1 (.tmp 11), none⟩,
       ⟨some 13, .bslice 3 1 [(.int .i64 0)] 1 [(0, (.tmp 12))], none⟩,
       ⟨some 2, .mov (.tmp 13), none⟩])
     (.ret))
    (.skip)))
  (.seq
   (.reg [⟨some 3, .mov (.const (.slice none 0 0)), none⟩])
   (.seq
    (.seq
     (.reg [⟨some 14, .faddr 2 (.tmp 1), none⟩,
       ⟨some 15, .load false 1 (.tmp 14), none⟩,
       ⟨some 16, .slen false (.tmp 15), none⟩,
       ⟨some 17, .mov (.const (.int .i64 0)), none⟩])
     (.block 0
      (.loop ac42_l1)))
    (.seq
     (.reg [⟨some 38, .mov (.tmp 3), none⟩,
       ⟨some 2, .mov (.tmp 38), none⟩])
     (.ret)))))
theorem fn42 : Fun Try.prog 42 39 ac42 [.tmp 2] := ⟨mixedB, Try.f42, _, Try.func42, rfl, by decide +kernel, rfl, by kernel_rfl, by kernel_rfl⟩
/- glossator/glossatorref2.SubstituteVars -/
def ac43_l0 : AC := .seq
 (.reg [⟨some 16, .bin .lss .int (.tmp 15) (.tmp 14), none⟩])
 (.seq
  (.cond (.tmp 16)
   (.skip)
   (.exit 0))
  (.seq
   (.block 1
    (.seq
     (.reg [⟨some 17, .iaddr 4 (.tmp 13) (.tmp 15), none⟩,
       ⟨some 18, .load true 4 (.tmp 17), none⟩,
       ⟨some 6, .alloc 57 4 [(.int .i64 0), (.int .i64 0), (.int .i64 0), (.slice none 0 0)], none⟩,
       ⟨none, .store 4 (.tmp 6) (.tmp 18), none⟩])
     (.seq
      (.reg [⟨some 19, .faddr 0 (.tmp 6), none⟩,
        ⟨some 20, .load false 1 (.tmp 19), none⟩,
        ⟨some 21, .faddr 1 (.tmp 2), none⟩,
        ⟨some 22, .load false 1 (.tmp 21), none⟩,
        ⟨some 23, .bin .eql .int (.tmp 20) (.tmp 22), none⟩])
      (.cond (.tmp 23)
       (.seq
        (.reg [⟨some 24, .faddr 1 (.tmp 6), none⟩,
          ⟨some 25, .load true 3 (.tmp 24), none⟩,
          ⟨none, .store 3 (.tmp 4) (.tmp 25), none⟩])
        (.ret))
       (.skip)))))
   (.reg [⟨some 26, .bin .add .int (.tmp 15) (.const (.int .i64 1)), none⟩,
     ⟨some 15, .mov (.tmp 26), none⟩])))
def ac43_l1 : AC := .seq
 (.reg [⟨some 31, .bin .lss .int (.tmp 30) (.tmp 29), none⟩])
 (.seq
  (.cond (.tmp 31)
   (.skip)
   (.exit 2))
  (.seq
   (.block 3
    (.seq
     (.reg [⟨some 32, .iaddr 3 (.tmp 28) (.tmp 30), none⟩,
       ⟨some 33, .load true 3 (.tmp 32), none⟩,
       ⟨some 9, .alloc 24 3 [(.int .i64 0), (.int .i64 0), (.slice none 0 0)], none⟩,
       ⟨none, .store 3 (.tmp 9) (.tmp 33), none⟩])
     (.reg [⟨some 34, .mov (.tmp 7), none⟩,
       ⟨some 35, .load true 3 (.tmp 9), none⟩,
       ⟨some 36, .mov (.tmp 1), none⟩,
       ⟨some 37, .call (.func 43) [(.tmp 35), (.tmp 36)], none⟩,
       ⟨some 38, .bslice 24 3 [(.int .i64 0), (.int .i64 0), (.slice none 0 0)] 1 [(0, (.tmp 37))], none⟩,
       ⟨some 39, .app 24 3 (.tmp 34) (.tmp 38), none⟩,
       ⟨some 7, .mov (.tmp 39), none⟩])))
   (.reg [⟨some 40, .bin .add .int (.tmp 30) (.const (.int .i64 1)), none⟩,
     ⟨some 30, .mov (.tmp 40), none⟩])))
def ac43 : AC := .seq
 (.reg [⟨some 2, .box 24 3 (.tmp 0), none⟩,
   ⟨some 4, .alloc 24 3 [(.int .i64 0), (.int .i64 0), (.slice none 0 0)], none⟩])
 (.seq
  (.seq
   (.reg [⟨some 10, .faddr 0 (.tmp 2), none⟩,
     ⟨some 11, .load false 1 (.tmp 10), none⟩,
     ⟨some 12, .bin .eql .int (.tmp 11) (.const (.int .i64 1)), none⟩])
   (.cond (.tmp 12)
    (.seq
     (.reg [⟨some 13, .mov (.tmp 1), none⟩,
       ⟨some 14, .slen false (.tmp 13), none⟩,
       ⟨some 15, .mov (.const (.int .i64 0)), none⟩])
     (.block 0
      (.loop ac43_l0)))
    (.skip)))
  (.seq
   (.reg [⟨some 7, .mov (.const (.slice none 0 0)), none⟩])
   (.seq
    (.seq
     (.reg [⟨some 27, .faddr 2 (.tmp 2), none⟩,
       ⟨some 28, .load false 1 (.tmp 27), none⟩,
       ⟨some 29, .slen false (.tmp 28), none⟩,
       ⟨some 30, .mov (.const (.int .i64 0)), none⟩])
     (.block 2
      (.loop ac43_l1)))
    (.seq
     (.reg [⟨some 41, .mov (.tmp 7), none⟩,
       ⟨some 42, .faddr 2 (.tmp 2), none⟩,
       ⟨none, .store 1 (.tmp 42) (.tmp 41), none⟩])
     (.seq
      (.reg [⟨some 43, .load true 3 (.tmp 2), none⟩,
        ⟨none, .store 3 (.tmp 4) (.tmp 43), none⟩])
      (.ret))))))
theorem fn43 : Fun Try.prog 43 44 ac43 [.cell 4 3 true] := ⟨mixedB, Try.f43, _, Try.func43, rfl, by decide +kernel, rfl, by kernel_rfl, by kernel_rfl⟩
/- glossator/glossatorkeep2.typ -/
def ac60 : AC := .seq
 (.reg [⟨some 6, .alloc 24 3 [(.int .i64 0), (.int .i64 0), (.slice none 0 0)], none⟩])
 (.seq
  (.reg [⟨some 7, .mov (.tmp 0), none⟩,
    ⟨some 8, .mov (.tmp 1), none⟩,
    ⟨some 9, .mov (.tmp 2), none⟩,
    ⟨some 10, .build [(.int .i64 0), (.int .i64 0), (.slice none 0 0)] [(0, 1), (1, 1), (2, 1)] [(0, (.tmp 7)), (1, (.tmp 8)), (2, (.tmp 9))], none⟩,
    ⟨none, .store 3 (.tmp 6) (.tmp 10), none⟩])
  (.ret))
theorem fn60 : Fun Try.prog 60 11 ac60 [.cell 6 3 true] := ⟨mixedB, Try.f60, _, Try.func60, rfl, by decide +kernel, rfl, by kernel_rfl, by kernel_rfl⟩
/- glossator/glossatorkeep2.typeParam -/
def ac61 : AC := .seq
 (.reg [⟨some 2, .alloc 24 3 [(.int .i64 0), (.int .i64 0), (.slice none 0 0)], none⟩])
 (.seq
  (.reg [⟨some 3, .mov (.tmp 0), none⟩,
    ⟨some 4, .call (.func 60) [(.const (.int .i64 2)), (.tmp 3), (.const (.slice none 0 0))], none⟩,
    ⟨none, .store 3 (.tmp 2) (.tmp 4), none⟩])
  (.ret))
theorem fn61 : Fun Try.prog 61 5 ac61 [.cell 2 3 true] := ⟨mixedB, Try.f61, _, Try.func61, rfl, by decide +kernel, rfl, by kernel_rfl, by kernel_rfl⟩
/- glossator/glossatorkeep2.intType -/
def ac62 : AC := .seq
 (.reg [⟨some 0, .alloc 24 3 [(.int .i64 0), (.int .i64 0), (.slice none 0 0)], none⟩])
 (.seq
  (.reg [⟨some 1, .call (.func 60) [(.const (.int .i64 3)), (.const (.int .i64 0)), (.const (.slice none 0 0))], none⟩,
    ⟨none, .store 3 (.tmp 0) (.tmp 1), none⟩])
  (.ret))
theorem fn62 : Fun Try.prog 62 2 ac62 [.cell 0 3 true] := ⟨mixedB, Try.f62, _, Try.func62, rfl, by decide +kernel, rfl, by kernel_rfl, by kernel_rfl⟩
/- glossator/glossatorkeep2.typeVar -/
def ac63 : AC := .seq
 (.reg [⟨some 2, .alloc 24 3 [(.int .i64 0), (.int .i64 0), (.slice none 0 0)], none⟩])
 (.seq
  (.reg [⟨some 3, .mov (.tmp 0), none⟩,
    ⟨some 4, .call (.func 60) [(.const (.int .i64 1)), (.tmp 3), (.const (.slice none 0 0))], none⟩,
    ⟨none, .store 3 (.tmp 2) (.tmp 4), none⟩])
  (.ret))
theorem fn63 : Fun Try.prog 63 5 ac63 [.cell 2 3 true] := ⟨mixedB, Try.f63, _, Try.func63, rfl, by decide +kernel, rfl, by kernel_rfl, by kernel_rfl⟩
/- (*glossator/scheme.matcher).match -/
def ac64_l0 : AC := .seq
 (.reg [⟨some 78, .bin .lss .int (.tmp 77) (.tmp 76), none⟩])
 (.seq
  (.cond (.tmp 78)
   (.skip)
   (.exit 0))
  (.seq
   (.block 1
    (.seq
     (.reg [⟨some 79, .mov (.tmp 77), none⟩,
       ⟨some 8, .mov (.tmp 79), none⟩])
     (.seq
      (.dreg [⟨some 80, .mov (.tmp 0), none⟩,
        ⟨some 81, .faddr 2 (.tmp 4), none⟩,
        ⟨some 82, .load false 1 (.tmp 81), none⟩,
        ⟨some 83, .mov (.tmp 8), none⟩,
        ⟨some 84, .iaddr 3 (.tmp 82) (.tmp 83), none⟩,
        ⟨some 85, .load true 3 (.tmp 84), none⟩,
        ⟨some 86, .faddr 2 (.tmp 5), none⟩,
        ⟨some 87, .load false 1 (.tmp 86), none⟩,
        ⟨some 88, .mov (.tmp 8), none⟩,
        ⟨some 89, .iaddr 3 (.tmp 87) (.tmp 88), none⟩,
        ⟨some 90, .load true 3 (.tmp 89), none⟩,
        ⟨some 91, .call (.func 64) [(.tmp 80), (.tmp 85), (.tmp 90)], none⟩,
        ⟨some 92, .un .not (.tmp 91), none⟩]
        [[], [], [1], [], [2, 3], [4], [], [6], [], [7, 8], [9], [0, 5, 10], [11]]
        [[0], [4], [81], [8], [82, 83], [84], [5], [86], [8], [87, 88], [89], [80, 85, 90], [91]])
      (.cond (.tmp 92)
       (.seq
        (.reg [⟨some 6, .mov (.const (.bool false)), none⟩])
        (.ret))
       (.skip)))))
   (.reg [⟨some 93, .bin .add .int (.tmp 77) (.const (.int .i64 1)), none⟩,
     ⟨some 77, .mov (.tmp 93), none⟩])))
def ac64 : AC := .seq
 (.reg [⟨some 4, .box 24 3 (.tmp 1), none⟩,
   ⟨some 5, .box 24 3 (.tmp 2), none⟩,
   ⟨some 6, .mov (.const (.bool false)), none⟩])
 (.seq
  (.seq
   (.dreg [⟨some 9, .mov (.tmp 0), none⟩,
     ⟨some 10, .nilc (.tmp 9), none⟩,
     ⟨some 11, .faddr 0 (.tmp 10), none⟩,
     ⟨some 12, .load false 1 (.tmp 11), none⟩,
     ⟨some 13, .faddr 1 (.tmp 5), none⟩,
     ⟨some 14, .load false 1 (.tmp 13), none⟩,
     ⟨some 15, .call (.func 68) [(.tmp 12), (.tmp 14)], none⟩,
     ⟨some 7, .mov (.tmp 15), none⟩]
     [[], [0], [1], [2], [], [4], [3, 5], [6, 6, 0, 1, 2, 3, 4, 5, 6]]
     [[0], [9], [10], [11], [5], [13], [12, 14], [15]])
   (.seq
    (.reg [⟨some 16, .faddr 0 (.tmp 5), none⟩,
      ⟨some 17, .load false 1 (.tmp 16), none⟩,
      ⟨some 18, .bin .eql .int (.tmp 17) (.const (.int .i64 2)), none⟩,
      ⟨some 19, .mov (.tmp 18), none⟩,
      ⟨some 20, .mov (.tmp 7), some (19, true)⟩,
      ⟨some 21, .bin .geq .int (.tmp 20) (.const (.int .i64 0)), some (19, true)⟩,
      ⟨some 22, .pick (.tmp 19) (.tmp 21) (.const (.bool false)), none⟩])
    (.cond (.tmp 22)
     (.seq
      (.seq
       (.reg [⟨some 23, .mov (.tmp 0), none⟩,
         ⟨some 24, .nilc (.tmp 23), none⟩,
         ⟨some 25, .faddr 2 (.tmp 24), none⟩,
         ⟨some 26, .load false 1 (.tmp 25), none⟩,
         ⟨some 27, .mov (.tmp 7), none⟩,
         ⟨some 28, .iaddr 1 (.tmp 26) (.tmp 27), none⟩,
         ⟨some 29, .load false 1 (.tmp 28), none⟩])
       (.cond (.tmp 29)
        (.seq
         (.dreg [⟨some 30, .mov (.tmp 0), none⟩,
           ⟨some 31, .nilc (.tmp 30), none⟩,
           ⟨some 32, .faddr 1 (.tmp 31), none⟩,
           ⟨some 33, .load false 1 (.tmp 32), none⟩,
           ⟨some 34, .mov (.tmp 7), none⟩,
           ⟨some 35, .iaddr 3 (.tmp 33) (.tmp 34), none⟩,
           ⟨some 36, .load true 3 (.tmp 35), none⟩,
           ⟨some 37, .load true 3 (.tmp 4), none⟩,
           ⟨some 38, .call (.func 15) [(.tmp 36), (.tmp 37)], none⟩,
           ⟨some 6, .mov (.tmp 38), none⟩]
           [[], [0], [1], [2], [], [3, 4], [5], [], [6, 7], [8, 8, 0, 1, 2, 3, 4, 5, 6, 7, 8]]
           [[0], [30], [31], [32], [7], [33, 34], [35], [4], [36, 37], [38]])
         (.ret))
        (.skip)))
      (.seq
       (.dreg [⟨some 39, .mov (.tmp 0), none⟩,
         ⟨some 40, .nilc (.tmp 39), none⟩,
         ⟨some 41, .faddr 2 (.tmp 40), none⟩,
         ⟨some 42, .load false 1 (.tmp 41), none⟩,
         ⟨some 43, .mov (.tmp 7), none⟩,
         ⟨some 44, .mov (.tmp 0), none⟩,
         ⟨some 45, .nilc (.tmp 44), none⟩,
         ⟨some 46, .faddr 1 (.tmp 45), none⟩,
         ⟨some 47, .load false 1 (.tmp 46), none⟩,
         ⟨some 48, .mov (.tmp 7), none⟩,
         ⟨some 49, .load true 3 (.tmp 4), none⟩,
         ⟨some 50, .call (.func 69) [(.tmp 49)], none⟩,
         ⟨some 51, .iaddr 1 (.tmp 42) (.tmp 43), none⟩,
         ⟨none, .store 1 (.tmp 51) (.const (.bool true)), none⟩,
         ⟨some 52, .iaddr 3 (.tmp 47) (.tmp 48), none⟩,
         ⟨none, .store 3 (.tmp 52) (.tmp 50), none⟩]
         [[], [0], [1], [2], [], [], [5], [6], [7], [], [], [10], [3, 4, 0, 1, 2, 3, 4, 8, 11], [12, 11, 0, 1, 2, 3, 4, 8, 11], [8, 9, 0, 1, 2, 3, 4, 5, 6, 7, 8, 9, 10, 11, 12, 13], [14, 11, 13, 0, 1, 2, 3, 4, 5, 6, 7, 8, 9, 10, 11, 12, 13]]
         [[0], [39], [40], [41], [7], [0], [44], [45], [46], [7], [4], [49], [42, 43], [51], [47, 48], [52, 50]])
       (.seq
        (.reg [⟨some 6, .mov (.const (.bool true)), none⟩])
        (.ret))))
     (.skip))))
  (.seq
   (.seq
    (.reg [⟨some 53, .faddr 0 (.tmp 4), none⟩,
      ⟨some 54, .load false 1 (.tmp 53), none⟩,
      ⟨some 55, .faddr 0 (.tmp 5), none⟩,
      ⟨some 56, .load false 1 (.tmp 55), none⟩,
      ⟨some 57, .bin .neq .int (.tmp 54) (.tmp 56), none⟩,
      ⟨some 58, .mov (.tmp 57), none⟩,
      ⟨some 59, .faddr 1 (.tmp 4), some (58, false)⟩,
      ⟨some 60, .load false 1 (.tmp 59), some (58, false)⟩,
      ⟨some 61, .faddr 1 (.tmp 5), some (58, false)⟩,
      ⟨some 62, .load false 1 (.tmp 61), some (58, false)⟩,
      ⟨some 63, .bin .neq .int (.tmp 60) (.tmp 62), some (58, false)⟩,
      ⟨some 64, .pick (.tmp 58) (.const (.bool true)) (.tmp 63), none⟩,
      ⟨some 65, .mov (.tmp 64), none⟩,
      ⟨some 66, .faddr 2 (.tmp 4), some (65, false)⟩,
      ⟨some 67, .load false 1 (.tmp 66), some (65, false)⟩,
      ⟨some 68, .slen false (.tmp 67), some (65, false)⟩,
      ⟨some 69, .faddr 2 (.tmp 5), some (65, false)⟩,
      ⟨some 70, .load false 1 (.tmp 69), some (65, false)⟩,
      ⟨some 71, .slen false (.tmp 70), some (65, false)⟩,
      ⟨some 72, .bin .neq .int (.tmp 68) (.tmp 71), some (65, false)⟩,
      ⟨some 73, .pick (.tmp 65) (.const (.bool true)) (.tmp 72), none⟩])
    (.cond (.tmp 73)
     (.seq
      (.reg [⟨some 6, .mov (.const (.bool false)), none⟩])
      (.ret))
     (.skip)))
   (.seq
    (.seq
     (.reg [⟨some 74, .faddr 2 (.tmp 4), none⟩,
       ⟨some 75, .load false 1 (.tmp 74), none⟩,
       ⟨some 76, .slen false (.tmp 75), none⟩,
       ⟨some 77, .mov (.const (.int .i64 0)), none⟩])
     (.block 0
      (.loop ac64_l0)))
    (.seq
     (.reg [⟨some 6, .mov (.const (.bool true)), none⟩])
     (.ret)))))
theorem fn64 : Fun Try.prog 64 94 ac64 [.tmp 6] := ⟨mixedB, Try.f64, _, Try.func64, rfl, by decide +kernel, rfl, by kernel_rfl, by kernel_rfl⟩
/- slices.EqualFunc[[]glossator/api.Type,[]glossator/api.Type,glossator/api.Type,glossator/api.Type] -/
def ac65_l0 : AC := .seq
 (.reg [⟨some 18, .bin .lss .int (.tmp 17) (.tmp 16), none⟩])
 (.seq
  (.cond (.tmp 18)
   (.skip)
   (.exit 0))
  (.seq
   (.block 1
    (.seq
     (.reg [⟨some 19, .mov (.tmp 17), none⟩,
       ⟨some 20, .iaddr 3 (.tmp 15) (.tmp 17), none⟩,
       ⟨some 21, .load true 3 (.tmp 20), none⟩,
       ⟨some 8, .alloc 24 3 [(.int .i64 0), (.int .i64 0), (.slice none 0 0)], none⟩,
       ⟨some 7, .mov (.tmp 19), none⟩,
       ⟨none, .store 3 (.tmp 8) (.tmp 21), none⟩])
     (.seq
      (.reg [⟨some 22, .mov (.tmp 1), none⟩,
        ⟨some 23, .mov (.tmp 7), none⟩,
        ⟨some 24, .iaddr 3 (.tmp 22) (.tmp 23), none⟩,
        ⟨some 25, .load true 3 (.tmp 24), none⟩,
        ⟨some 9, .alloc 24 3 [(.int .i64 0), (.int .i64 0), (.slice none 0 0)], none⟩,
        ⟨none, .store 3 (.tmp 9) (.tmp 25), none⟩])
      (.seq
       (.reg [⟨some 26, .mov (.tmp 2), none⟩,
         ⟨some 27, .load true 3 (.tmp 8), none⟩,
         ⟨some 28, .load true 3 (.tmp 9), none⟩,
         ⟨some 29, .call (.tmp 26) [(.tmp 27), (.tmp 28)], none⟩,
         ⟨some 30, .un .not (.tmp 29), none⟩])
       (.cond (.tmp 30)
        (.seq
         (.reg [⟨some 6, .mov (.const (.bool false)), none⟩])
         (.ret))
        (.skip))))))
   (.reg [⟨some 31, .bin .add .int (.tmp 17) (.const (.int .i64 1)), none⟩,
     ⟨some 17, .mov (.tmp 31), none⟩])))
def ac65 : AC := .seq
 (.reg [⟨some 6, .mov (.const (.bool false)), none⟩])
 (.seq
  (.seq
   (.reg [⟨some 10, .mov (.tmp 0), none⟩,
     ⟨some 11, .slen false (.tmp 10), none⟩,
     ⟨some 12, .mov (.tmp 1), none⟩,
     ⟨some 13, .slen false (.tmp 12), none⟩,
     ⟨some 14, .bin .neq .int (.tmp 11) (.tmp 13), none⟩])
   (.cond (.tmp 14)
    (.seq
     (.reg [⟨some 6, .mov (.const (.bool false)), none⟩])
     (.ret))
    (.skip)))
  (.seq
   (.seq
    (.reg [⟨some 15, .mov (.tmp 0), none⟩,
      ⟨some 16, .slen false (.tmp 15), none⟩,
      ⟨some 17, .mov (.const (.int .i64 0)), none⟩])
    (.block 0
     (.loop ac65_l0)))
   (.seq
    (.reg [⟨some 6, .mov (.const (.bool true)), none⟩])
    (.ret))))
theorem fn65 : Fun Try.prog 65 32 ac65 [.tmp 6] := ⟨mixedB, Try.f65, _, Try.func65, rfl, by decide +kernel, rfl, by kernel_rfl, by kernel_rfl⟩
/- glossator/types.Map -/
def ac66_l0 : AC := .seq
 (.reg [⟨some 27, .bin .lss .int (.tmp 26) (.tmp 25), none⟩])
 (.seq
  (.cond (.tmp 27)
   (.skip)
   (.exit 0))
  (.seq
   (.block 1
    (.seq
     (.reg [⟨some 28, .iaddr 3 (.tmp 24) (.tmp 26), none⟩,
       ⟨some 29, .load true 3 (.tmp 28), none⟩,
       ⟨some 9, .alloc 24 3 [(.int .i64 0), (.int .i64 0), (.slice none 0 0)], none⟩,
       ⟨none, .store 3 (.tmp 9) (.tmp 29), none⟩])
     (.dreg [⟨some 30, .faddr 2 (.tmp 7), none⟩,
       ⟨some 31, .load false 1 (.tmp 30), none⟩,
       ⟨some 32, .load true 3 (.tmp 9), none⟩,
       ⟨some 33, .mov (.tmp 1), none⟩,
       ⟨some 34, .call (.func 66) [(.tmp 32), (.tmp 33)], none⟩,
       ⟨some 35, .bslice 24 3 [(.int .i64 0), (.int .i64 0), (.slice none 0 0)] 1 [(0, (.tmp 34))], none⟩,
       ⟨some 36, .app 24 3 (.tmp 31) (.tmp 35), none⟩,
       ⟨some 37, .faddr 2 (.tmp 7), none⟩,
       ⟨none, .store 1 (.tmp 37) (.tmp 36), none⟩]
       [[], [0], [], [], [2, 3], [4], [1, 5, 4], [0, 1, 2, 3, 4, 5, 6], [7, 6, 6, 0, 1, 2, 3, 4, 5, 6]]
       [[7], [30], [9], [1], [32, 33], [34], [31, 35], [7], [37, 36]])))
   (.reg [⟨some 38, .bin .add .int (.tmp 26) (.const (.int .i64 1)), none⟩,
     ⟨some 26, .mov (.tmp 38), none⟩])))
def ac66 : AC := .seq
 (.reg [⟨some 2, .box 24 3 (.tmp 0), none⟩,
   ⟨some 4, .alloc 24 3 [(.int .i64 0), (.int .i64 0), (.slice none 0 0)], none⟩])
 (.seq
  (.seq
   (.reg [⟨some 11, .mov (.tmp 1), none⟩,
     ⟨some 12, .load true 3 (.tmp 2), none⟩,
     ⟨some 13, .call (.tmp 11) [(.tmp 12)], none⟩,
     ⟨some 10, .mov (.tmp 13), none⟩,
     ⟨some 14, .ext (.tmp 10) 0, none⟩,
     ⟨some 15, .ext (.tmp 10) 1, none⟩,
     ⟨some 5, .alloc 24 3 [(.int .i64 0), (.int .i64 0), (.slice none 0 0)], none⟩,
     ⟨none, .store 3 (.tmp 5) (.tmp 14), none⟩,
     ⟨some 6, .mov (.tmp 15), none⟩])
   (.seq
    (.reg [⟨some 16, .mov (.tmp 6), none⟩])
    (.cond (.tmp 16)
     (.seq
      (.reg [⟨some 17, .load true 3 (.tmp 5), none⟩,
        ⟨none, .store 3 (.tmp 4) (.tmp 17), none⟩])
      (.ret))
     (.skip))))
  (.seq
   (.reg [⟨some 18, .faddr 0 (.tmp 2), none⟩,
     ⟨some 19, .load false 1 (.tmp 18), none⟩,
     ⟨some 20, .faddr 1 (.tmp 2), none⟩,
     ⟨some 21, .load false 1 (.tmp 20), none⟩,
     ⟨some 22, .build [(.int .i64 0), (.int .i64 0), (.slice none 0 0)] [(0, 1), (1, 1), (2, 1)] [(0, (.tmp 19)), (1, (.tmp 21))], none⟩,
     ⟨some 7, .alloc 24 3 [(.int .i64 0), (.int .i64 0), (.slice none 0 0)], none⟩,
     ⟨none, .store 3 (.tmp 7) (.tmp 22), none⟩])
   (.seq
    (.seq
     (.reg [⟨some 23, .faddr 2 (.tmp 2), none⟩,
       ⟨some 24, .load false 1 (.tmp 23), none⟩,
       ⟨some 25, .slen false (.tmp 24), none⟩,
       ⟨some 26, .mov (.const (.int .i64 0)), none⟩])
     (.block 0
      (.loop ac66_l0)))
    (.seq
     (.reg [⟨some 39, .load true 3 (.tmp 7), none⟩,
       ⟨none, .store 3 (.tmp 4) (.tmp 39), none⟩])
     (.ret)))))
theorem fn66 : Fun Try.prog 66 40 ac66 [.cell 4 3 true] := ⟨mixedB, Try.f66, _, Try.func66, rfl, by decide +kernel, rfl, by kernel_rfl, by kernel_rfl⟩
/- glossator/scheme.Apply$1 -/
def ac67 : AC := .seq
 (.reg [⟨some 3, .box 24 3 (.tmp 0), none⟩,
   ⟨some 4, .alloc 24 3 [(.int .i64 0), (.int .i64 0), (.slice none 0 0)], none⟩,
   ⟨some 5, .mov (.const (.bool false)), none⟩])
 (.seq
  (.reg [⟨some 7, .load false 1 (.tmp 1), none⟩,
    ⟨some 8, .faddr 1 (.tmp 3), none⟩,
    ⟨some 9, .load false 1 (.tmp 8), none⟩,
    ⟨some 10, .call (.func 68) [(.tmp 7), (.tmp 9)], none⟩,
    ⟨some 6, .mov (.tmp 10), none⟩])
  (.seq
   (.seq
    (.reg [⟨some 11, .faddr 0 (.tmp 3), none⟩,
      ⟨some 12, .load false 1 (.tmp 11), none⟩,
      ⟨some 13, .bin .neq .int (.tmp 12) (.const (.int .i64 2)), none⟩,
      ⟨some 14, .mov (.tmp 13), none⟩,
      ⟨some 15, .mov (.tmp 6), some (14, false)⟩,
      ⟨some 16, .bin .lss .int (.tmp 15) (.const (.int .i64 0)), some (14, false)⟩,
      ⟨some 17, .pick (.tmp 14) (.const (.bool true)) (.tmp 16), none⟩,
      ⟨some 18, .mov (.tmp 17), none⟩,
      ⟨some 19, .mov (.tmp 6), some (18, false)⟩,
      ⟨some 20, .load false 1 (.tmp 2), some (18, false)⟩,
      ⟨some 21, .slen false (.tmp 20), some (18, false)⟩,
      ⟨some 22, .bin .geq .int (.tmp 19) (.tmp 21), some (18, false)⟩,
      ⟨some 23, .pick (.tmp 18) (.const (.bool true)) (.tmp 22), none⟩])
    (.cond (.tmp 23)
     (.seq
      (.reg [⟨some 24, .load true 3 (.tmp 3), none⟩,
        ⟨none, .store 3 (.tmp 4) (.tmp 24), none⟩,
        ⟨some 5, .mov (.const (.bool false)), none⟩])
      (.ret))
     (.skip)))
   (.seq
    (.reg [⟨some 25, .load false 1 (.tmp 2), none⟩,
      ⟨some 26, .mov (.tmp 6), none⟩,
      ⟨some 27, .iaddr 3 (.tmp 25) (.tmp 26), none⟩,
      ⟨some 28, .load true 3 (.tmp 27), none⟩,
      ⟨some 29, .call (.func 69) [(.tmp 28)], none⟩,
      ⟨none, .store 3 (.tmp 4) (.tmp 29), none⟩,
      ⟨some 5, .mov (.const (.bool true)), none⟩])
    (.ret))))
theorem fn67 : Fun Try.prog 67 30 ac67 [.cell 4 3 true, .tmp 5] := ⟨mixedB, Try.f67, _, Try.func67, rfl, by decide +kernel, rfl, by kernel_rfl, by kernel_rfl⟩
/- slices.Index[[]int,int] -/
def ac68_l0 : AC := .seq
 (.reg [⟨some 9, .bin .lss .int (.tmp 8) (.tmp 7), none⟩])
 (.seq
  (.cond (.tmp 9)
   (.skip)
   (.exit 0))
  (.seq
   (.block 1
    (.seq
     (.reg [⟨some 10, .mov (.tmp 8), none⟩,
       ⟨some 5, .mov (.tmp 10), none⟩])
     (.seq
      (.reg [⟨some 11, .mov (.tmp 1), none⟩,
        ⟨some 12, .mov (.tmp 0), none⟩,
        ⟨some 13, .mov (.tmp 5), none⟩,
        ⟨some 14, .iaddr 1 (.tmp 12) (.tmp 13), none⟩,
        ⟨some 15, .load false 1 (.tmp 14), none⟩,
        ⟨some 16, .bin .eql .int (.tmp 11) (.tmp 15), none⟩])
      (.cond (.tmp 16)
       (.seq
        (.reg [⟨some 17, .mov (.tmp 5), none⟩,
          ⟨some 4, .mov (.tmp 17), none⟩])
        (.ret))
       (.skip)))))
   (.reg [⟨some 18, .bin .add .int (.tmp 8) (.const (.int .i64 1)), none⟩,
     ⟨some 8, .mov (.tmp 18), none⟩])))
def ac68 : AC := .seq
 (.reg [⟨some 4, .mov (.const (.int .i64 0)), none⟩])
 (.seq
  (.seq
   (.reg [⟨some 6, .mov (.tmp 0), none⟩,
     ⟨some 7, .slen false (.tmp 6), none⟩,
     ⟨some 8, .mov (.const (.int .i64 0)), none⟩])
   (.block 0
    (.loop ac68_l0)))
  (.seq
   (.reg [⟨some 4, .mov (.const (.int .i64 (-1))), none⟩])
   (.ret)))
theorem fn68 : Fun Try.prog 68 19 ac68 [.tmp 4] := ⟨mixedB, Try.f68, _, Try.func68, rfl, by decide +kernel, rfl, by kernel_rfl, by kernel_rfl⟩
/- glossator/types.Clone -/
def ac69 : AC := .seq
 (.reg [⟨some 1, .box 24 3 (.tmp 0), none⟩,
   ⟨some 2, .alloc 24 3 [(.int .i64 0), (.int .i64 0), (.slice none 0 0)], none⟩])
 (.seq
  (.reg [⟨some 3, .load true 3 (.tmp 1), none⟩,
    ⟨some 4, .call (.func 66) [(.tmp 3), (.func 105)], none⟩,
    ⟨none, .store 3 (.tmp 2) (.tmp 4), none⟩])
  (.ret))
theorem fn69 : Fun Try.prog 69 5 ac69 [.cell 2 3 true] := ⟨mixedB, Try.f69, _, Try.func69, rfl, by decide +kernel, rfl, by kernel_rfl, by kernel_rfl⟩
/- slices.IndexFunc[[]int,int] -/
def ac70_l0 : AC := .seq
 (.reg [⟨some 9, .bin .lss .int (.tmp 8) (.tmp 7), none⟩])
 (.seq
  (.cond (.tmp 9)
   (.skip)
   (.exit 0))
  (.seq
   (.block 1
    (.seq
     (.reg [⟨some 10, .mov (.tmp 8), none⟩,
       ⟨some 5, .mov (.tmp 10), none⟩])
     (.seq
      (.reg [⟨some 11, .mov (.tmp 1), none⟩,
        ⟨some 12, .mov (.tmp 0), none⟩,
        ⟨some 13, .mov (.tmp 5), none⟩,
        ⟨some 14, .iaddr 1 (.tmp 12) (.tmp 13), none⟩,
        ⟨some 15, .load false 1 (.tmp 14), none⟩,
        ⟨some 16, .call (.tmp 11) [(.tmp 15)], none⟩])
      (.cond (.tmp 16)
       (.seq
        (.reg [⟨some 17, .mov (.tmp 5), none⟩,
          ⟨some 4, .mov (.tmp 17), none⟩])
        (.ret))
       (.skip)))))
   (.reg [⟨some 18, .bin .add .int (.tmp 8) (.const (.int .i64 1)), none⟩,
     ⟨some 8, .mov (.tmp 18), none⟩])))
def ac70 : AC := .seq
 (.reg [⟨some 4, .mov (.const (.int .i64 0)), none⟩])
 (.seq
  (.seq
   (.reg [⟨some 6, .mov (.tmp 0), none⟩,
     ⟨some 7, .slen false (.tmp 6), none⟩,
     ⟨some 8, .mov (.const (.int .i64 0)), none⟩])
   (.block 0
    (.loop ac70_l0)))
  (.seq
   (.reg [⟨some 4, .mov (.const (.int .i64 (-1))), none⟩])
   (.ret)))
theorem fn70 : Fun Try.prog 70 19 ac70 [.tmp 4] := ⟨mixedB, Try.f70, _, Try.func70, rfl, by decide +kernel, rfl, by kernel_rfl, by kernel_rfl⟩
/- slices.ContainsFunc[[]glossator/api.Type,glossator/api.Type] -/
def ac71 : AC := .seq
 (.reg [⟨some 4, .mov (.const (.bool false)), none⟩])
 (.seq
  (.reg [⟨some 5, .mov (.tmp 0), none⟩,
    ⟨some 6, .mov (.tmp 1), none⟩,
    ⟨some 7, .call (.func 106) [(.tmp 5), (.tmp 6)], none⟩,
    ⟨some 8, .bin .geq .int (.tmp 7) (.const (.int .i64 0)), none⟩,
    ⟨some 4, .mov (.tmp 8), none⟩])
  (.ret))
theorem fn71 : Fun Try.prog 71 9 ac71 [.tmp 4] := ⟨mixedB, Try.f71, _, Try.func71, rfl, by decide +kernel, rfl, by kernel_rfl, by kernel_rfl⟩
/- glossator/glossatorkeep2.containsParam$1 -/
def ac72 : AC := .seq
 (.reg [⟨some 2, .box 24 3 (.tmp 0), none⟩,
   ⟨some 3, .mov (.const (.bool false)), none⟩])
 (.seq
  (.reg [⟨some 4, .load true 3 (.tmp 2), none⟩,
    ⟨some 5, .load false 1 (.tmp 1), none⟩,
    ⟨some 6, .call (.func 19) [(.tmp 4), (.tmp 5)], none⟩,
    ⟨some 3, .mov (.tmp 6), none⟩])
  (.ret))
theorem fn72 : Fun Try.prog 72 7 ac72 [.tmp 3] := ⟨mixedB, Try.f72, _, Try.func72, rfl, by decide +kernel, rfl, by kernel_rfl, by kernel_rfl⟩
/- glossator/scheme.Instantiate$1 -/
def ac73 : AC := .seq
 (.reg [⟨some 3, .box 24 3 (.tmp 0), none⟩,
   ⟨some 4, .alloc 24 3 [(.int .i64 0), (.int .i64 0), (.slice none 0 0)], none⟩,
   ⟨some 5, .mov (.const (.bool false)), none⟩])
 (.seq
  (.reg [⟨some 7, .load false 1 (.tmp 1), none⟩,
    ⟨some 8, .faddr 1 (.tmp 3), none⟩,
    ⟨some 9, .load false 1 (.tmp 8), none⟩,
    ⟨some 10, .call (.func 68) [(.tmp 7), (.tmp 9)], none⟩,
    ⟨some 6, .mov (.tmp 10), none⟩])
  (.seq
   (.seq
    (.reg [⟨some 11, .faddr 0 (.tmp 3), none⟩,
      ⟨some 12, .load false 1 (.tmp 11), none⟩,
      ⟨some 13, .bin .neq .int (.tmp 12) (.const (.int .i64 2)), none⟩,
      ⟨some 14, .mov (.tmp 13), none⟩,
      ⟨some 15, .mov (.tmp 6), some (14, false)⟩,
      ⟨some 16, .bin .lss .int (.tmp 15) (.const (.int .i64 0)), some (14, false)⟩,
      ⟨some 17, .pick (.tmp 14) (.const (.bool true)) (.tmp 16), none⟩])
    (.cond (.tmp 17)
     (.seq
      (.reg [⟨some 18, .load true 3 (.tmp 3), none⟩,
        ⟨none, .store 3 (.tmp 4) (.tmp 18), none⟩,
        ⟨some 5, .mov (.const (.bool false)), none⟩])
      (.ret))
     (.skip)))
   (.seq
    (.reg [⟨some 19, .load false 1 (.tmp 2), none⟩,
      ⟨some 20, .mov (.tmp 6), none⟩,
      ⟨some 21, .bin .add .int (.tmp 19) (.tmp 20), none⟩,
      ⟨some 22, .build [(.int .i64 0), (.int .i64 0), (.slice none 0 0)] [(0, 1), (1, 1), (2, 1)] [(0, (.const (.int .i64 1))), (1, (.tmp 21))], none⟩,
      ⟨none, .store 3 (.tmp 4) (.tmp 22), none⟩,
      ⟨some 5, .mov (.const (.bool true)), none⟩])
    (.ret))))
theorem fn73 : Fun Try.prog 73 23 ac73 [.cell 4 3 true, .tmp 5] := ⟨mixedB, Try.f73, _, Try.func73, rfl, by decide +kernel, rfl, by kernel_rfl, by kernel_rfl⟩
/- glossator/types.measure -/
def ac81_l0 : AC := .seq
 (.reg [⟨some 14, .bin .lss .int (.tmp 13) (.tmp 12), none⟩])
 (.seq
  (.cond (.tmp 14)
   (.skip)
   (.exit 0))
  (.seq
   (.block 1
    (.seq
     (.reg [⟨some 15, .iaddr 3 (.tmp 11) (.tmp 13), none⟩,
       ⟨some 16, .load true 3 (.tmp 15), none⟩,
       ⟨some 7, .alloc 24 3 [(.int .i64 0), (.int .i64 0), (.slice none 0 0)], none⟩,
       ⟨none, .store 3 (.tmp 7) (.tmp 16), none⟩])
     (.seq
      (.seq
       (.reg [⟨some 17, .mov (.tmp 4), none⟩,
         ⟨some 18, .mov (.tmp 1), none⟩,
         ⟨some 19, .bin .gtr .int (.tmp 17) (.tmp 18), none⟩])
       (.cond (.tmp 19)
        (.exit 0)
        (.skip)))
      (.seq
       (.reg [⟨some 21, .load true 3 (.tmp 7), none⟩,
         ⟨some 22, .mov (.tmp 1), none⟩,
         ⟨some 23, .mov (.tmp 4), none⟩,
         ⟨some 24, .bin .sub .int (.tmp 22) (.tmp 23), none⟩,
         ⟨some 25, .call (.func 81) [(.tmp 21), (.tmp 24)], none⟩,
         ⟨some 20, .mov (.tmp 25), none⟩,
         ⟨some 26, .ext (.tmp 20) 0, none⟩,
         ⟨some 27, .ext (.tmp 20) 1, none⟩,
         ⟨some 8, .mov (.tmp 26), none⟩,
         ⟨some 9, .mov (.tmp 27), none⟩])
       (.reg [⟨some 28, .mov (.tmp 4), none⟩,
         ⟨some 29, .mov (.tmp 8), none⟩,
         ⟨some 30, .bin .add .int (.tmp 28) (.tmp 29), none⟩,
         ⟨some 31, .mov (.tmp 5), none⟩,
         ⟨some 32, .mov (.tmp 9), none⟩,
         ⟨some 33, .minmax false (.tmp 31) (.tmp 32), none⟩,
         ⟨some 4, .mov (.tmp 30), none⟩,
         ⟨some 5, .mov (.tmp 33), none⟩])))))
   (.reg [⟨some 34, .bin .add .int (.tmp 13) (.const (.int .i64 1)), none⟩,
     ⟨some 13, .mov (.tmp 34), none⟩])))
def ac81 : AC := .seq
 (.reg [⟨some 2, .box 24 3 (.tmp 0), none⟩,
   ⟨some 4, .mov (.const (.int .i64 0)), none⟩,
   ⟨some 5, .mov (.const (.int .i64 0)), none⟩])
 (.seq
  (.reg [⟨some 4, .mov (.const (.int .i64 1)), none⟩])
  (.seq
   (.seq
    (.reg [⟨some 10, .faddr 2 (.tmp 2), none⟩,
      ⟨some 11, .load false 1 (.tmp 10), none⟩,
      ⟨some 12, .slen false (.tmp 11), none⟩,
      ⟨some 13, .mov (.const (.int .i64 0)), none⟩])
    (.block 0
     (.loop ac81_l0)))
   (.seq
    (.reg [⟨some 35, .mov (.tmp 4), none⟩,
      ⟨some 36, .mov (.tmp 5), none⟩,
      ⟨some 37, .bin .add .int (.tmp 36) (.const (.int .i64 1)), none⟩,
      ⟨some 4, .mov (.tmp 35), none⟩,
      ⟨some 5, .mov (.tmp 37), none⟩])
    (.ret))))
theorem fn81 : Fun Try.prog 81 38 ac81 [.tmp 4, .tmp 5] := ⟨mixedB, Try.f81, _, Try.func81, rfl, by decide +kernel, rfl, by kernel_rfl, by kernel_rfl⟩
/- glossator/types.wellFormed -/
def ac82 : AC := .seq
 (.reg [⟨some 1, .box 24 3 (.tmp 0), none⟩,
   ⟨some 2, .mov (.const (.bool false)), none⟩])
 (.seq
  (.reg [⟨some 3, .load true 3 (.tmp 1), none⟩,
    ⟨some 4, .call (.func 110) [(.tmp 3)], none⟩,
    ⟨some 5, .mov (.tmp 4), none⟩,
    ⟨some 6, .faddr 2 (.tmp 1), some (5, true)⟩,
    ⟨some 7, .load false 1 (.tmp 6), some (5, true)⟩,
    ⟨some 8, .call (.func 71) [(.tmp 7), (.func 111)], some (5, true)⟩,
    ⟨some 9, .un .not (.tmp 8), some (5, true)⟩,
    ⟨some 10, .pick (.tmp 5) (.tmp 9) (.const (.bool false)), none⟩,
    ⟨some 2, .mov (.tmp 10), none⟩])
  (.ret))
theorem fn82 : Fun Try.prog 82 11 ac82 [.tmp 2] := ⟨mixedB, Try.f82, _, Try.func82, rfl, by decide +kernel, rfl, by kernel_rfl, by kernel_rfl⟩
/- glossator/types.Substitute$1 -/
def ac83 : AC := .seq
 (.reg [⟨some 2, .box 24 3 (.tmp 0), none⟩,
   ⟨some 3, .alloc 24 3 [(.int .i64 0), (.int .i64 0), (.slice none 0 0)], none⟩,
   ⟨some 4, .mov (.const (.bool false)), none⟩])
 (.seq
  (.seq
   (.reg [⟨some 6, .faddr 0 (.tmp 2), none⟩,
     ⟨some 7, .load false 1 (.tmp 6), none⟩,
     ⟨some 8, .bin .neq .int (.tmp 7) (.const (.int .i64 1)), none⟩])
   (.cond (.tmp 8)
    (.seq
     (.reg [⟨some 9, .load true 3 (.tmp 2), none⟩,
       ⟨none, .store 3 (.tmp 3) (.tmp 9), none⟩,
       ⟨some 4, .mov (.const (.bool false)), none⟩])
     (.ret))
    (.skip)))
  (.seq
   (.reg [⟨some 10, .load false 1 (.tmp 1), none⟩,
     ⟨some 11, .mkfn 85 [(.tmp 2)], none⟩,
     ⟨some 12, .call (.func 84) [(.tmp 10), (.tmp 11)], none⟩,
     ⟨some 5, .mov (.tmp 12), none⟩])
   (.seq
    (.seq
     (.reg [⟨some 13, .mov (.tmp 5), none⟩,
       ⟨some 14, .bin .lss .int (.tmp 13) (.const (.int .i64 0)), none⟩])
     (.cond (.tmp 14)
      (.seq
       (.reg [⟨some 15, .load true 3 (.tmp 2), none⟩,
         ⟨none, .store 3 (.tmp 3) (.tmp 15), none⟩,
         ⟨some 4, .mov (.const (.bool false)), none⟩])
       (.ret))
      (.skip)))
    (.seq
     (.reg [⟨some 16, .load false 1 (.tmp 1), none⟩,
       ⟨some 17, .mov (.tmp 5), none⟩,
       ⟨some 18, .iaddr 4 (.tmp 16) (.tmp 17), none⟩,
       ⟨some 19, .faddr 1 (.tmp 18), none⟩,
       ⟨some 20, .load true 3 (.tmp 19), none⟩,
       ⟨some 21, .call (.func 69) [(.tmp 20)], none⟩,
       ⟨none, .store 3 (.tmp 3) (.tmp 21), none⟩,
       ⟨some 4, .mov (.const (.bool true)), none⟩])
     (.ret)))))
theorem fn83 : Fun Try.prog 83 22 ac83 [.cell 3 3 true, .tmp 4] := ⟨mixedB, Try.f83, _, Try.func83, rfl, by decide +kernel, rfl, by kernel_rfl, by kernel_rfl⟩
/- slices.IndexFunc[[]glossator/api.TypeBinding,glossator/api.TypeBinding] -/
def ac84_l0 : AC := .seq
 (.reg [⟨some 9, .bin .lss .int (.tmp 8) (.tmp 7), none⟩])
 (.seq
  (.cond (.tmp 9)
   (.skip)
   (.exit 0))
  (.seq
   (.block 1
    (.seq
     (.reg [⟨some 10, .mov (.tmp 8), none⟩,
       ⟨some 5, .mov (.tmp 10), none⟩])
     (.seq
      (.reg [⟨some 11, .mov (.tmp 1), none⟩,
        ⟨some 12, .mov (.tmp 0), none⟩,
        ⟨some 13, .mov (.tmp 5), none⟩,
        ⟨some 14, .iaddr 4 (.tmp 12) (.tmp 13), none⟩,
        ⟨some 15, .load true 4 (.tmp 14), none⟩,
        ⟨some 16, .call (.tmp 11) [(.tmp 15)], none⟩])
      (.cond (.tmp 16)
       (.seq
        (.reg [⟨some 17, .mov (.tmp 5), none⟩,
          ⟨some 4, .mov (.tmp 17), none⟩])
        (.ret))
       (.skip)))))
   (.reg [⟨some 18, .bin .add .int (.tmp 8) (.const (.int .i64 1)), none⟩,
     ⟨some 8, .mov (.tmp 18), none⟩])))
def ac84 : AC := .seq
 (.reg [⟨some 4, .mov (.const (.int .i64 0)), none⟩])
 (.seq
  (.seq
   (.reg [⟨some 6, .mov (.tmp 0), none⟩,
     ⟨some 7, .slen false (.tmp 6), none⟩,
     ⟨some 8, .mov (.const (.int .i64 0)), none⟩])
   (.block 0
    (.loop ac84_l0)))
  (.seq
   (.reg [⟨some 4, .mov (.const (.int .i64 (-1))), none⟩])
   (.ret)))
theorem fn84 : Fun Try.prog 84 19 ac84 [.tmp 4] := ⟨mixedB, Try.f84, _, Try.func84, rfl, by decide +kernel, rfl, by kernel_rfl, by kernel_rfl⟩
/- glossator/types.Substitute$1$1 -/
def ac85 : AC := .seq
 (.reg [⟨some 2, .box 57 4 (.tmp 0), none⟩,
   ⟨some 3, .mov (.const (.bool false)), none⟩])
 (.seq
  (.reg [⟨some 4, .faddr 0 (.tmp 2), none⟩,
    ⟨some 5, .load false 1 (.tmp 4), none⟩,
    ⟨some 6, .faddr 1 (.tmp 1), none⟩,
    ⟨some 7, .load false 1 (.tmp 6), none⟩,
    ⟨some 8, .bin .eql .int (.tmp 5) (.tmp 7), none⟩,
    ⟨some 3, .mov (.tmp 8), none⟩])
  (.ret))
theorem fn85 : Fun Try.prog 85 9 ac85 [.tmp 3] := ⟨mixedB, Try.f85, _, Try.func85, rfl, by decide +kernel, rfl, by kernel_rfl, by kernel_rfl⟩
/- glossator/types.appendFreeVars -/
def ac86_l0 : AC := .seq
 (.reg [⟨some 26, .bin .lss .int (.tmp 25) (.tmp 24), none⟩])
 (.seq
  (.cond (.tmp 26)
   (.skip)
   (.exit 0))
  (.seq
   (.block 1
    (.seq
     (.reg [⟨some 27, .iaddr 3 (.tmp 23) (.tmp 25), none⟩,
       ⟨some 28, .load true 3 (.tmp 27), none⟩,
       ⟨some 6, .alloc 24 3 [(.int .i64 0), (.int .i64 0), (.slice none 0 0)], none⟩,
       ⟨none, .store 3 (.tmp 6) (.tmp 28), none⟩])
     (.reg [⟨some 29, .mov (.tmp 0), none⟩,
       ⟨some 30, .load true 3 (.tmp 6), none⟩,
       ⟨some 31, .call (.func 86) [(.tmp 29), (.tmp 30)], none⟩,
       ⟨some 0, .mov (.tmp 31), none⟩])))
   (.reg [⟨some 32, .bin .add .int (.tmp 25) (.const (.int .i64 1)), none⟩,
     ⟨some 25, .mov (.tmp 32), none⟩])))
def ac86 : AC := .seq
 (.reg [⟨some 3, .box 24 3 (.tmp 1), none⟩,
   ⟨some 4, .mov (.const (.slice none 0 0)), none⟩])
 (.seq
  (.seq
   (.reg [⟨some 7, .faddr 0 (.tmp 3), none⟩,
     ⟨some 8, .load false 1 (.tmp 7), none⟩,
     ⟨some 9, .bin .eql .int (.tmp 8) (.const (.int .i64 1)), none⟩,
     ⟨some 10, .mov (.tmp 9), none⟩,
     ⟨some 11, .mov (.tmp 0), some (10, true)⟩,
     ⟨some 12, .faddr 1 (.tmp 3), some (10, true)⟩,
     ⟨some 13, .load false 1 (.tmp 12), some (10, true)⟩,
     ⟨some 14, .call (.func 35) [(.tmp 11), (.tmp 13)], some (10, true)⟩,
     ⟨some 15, .un .not (.tmp 14), some (10, true)⟩,
     ⟨some 16, .pick (.tmp 10) (.tmp 15) (.const (.bool false)), none⟩])
   (.cond (.tmp 16)
    (.reg [⟨some 17, .mov (.tmp 0), none⟩,
      ⟨some 18, .faddr 1 (.tmp 3), none⟩,
      ⟨some 19, .load false 1 (.tmp 18), none⟩,
      ⟨some 20, .bslice 3 1 [(.int .i64 0)] 1 [(0, (.tmp 19))], none⟩,
      ⟨some 21, .app 3 1 (.tmp 17) (.tmp 20), none⟩,
      ⟨some 0, .mov (.tmp 21), none⟩])
    (.skip)))
  (.seq
   (.seq
    (.reg [⟨some 22, .faddr 2 (.tmp 3), none⟩,
      ⟨some 23, .load false 1 (.tmp 22), none⟩,
      ⟨some 24, .slen false (.tmp 23), none⟩,
      ⟨some 25, .mov (.const (.int .i64 0)), none⟩])
    (.block 0
     (.loop ac86_l0)))
   (.seq
    (.reg [⟨some 33, .mov (.tmp 0), none⟩,
      ⟨some 4, .mov (.tmp 33), none⟩])
    (.ret))))
theorem fn86 : Fun Try.prog 86 34 ac86 [.tmp 4] := ⟨mixedB, Try.f86, _, Try.func86, rfl, by decide +kernel, rfl, by kernel_rfl, by kernel_rfl⟩
/- glossator/glossatorlaw2.typ -/
def ac87 : AC := .seq
 (.reg [⟨some 6, .alloc 24 3 [(.int .i64 0), (.int .i64 0), (.slice none 0 0)], none⟩])
 (.seq
  (.reg [⟨some 7, .mov (.tmp 0), none⟩,
    ⟨some 8, .mov (.tmp 1), none⟩,
    ⟨some 9, .mov (.tmp 2), none⟩,
    ⟨some 10, .build [(.int .i64 0), (.int .i64 0), (.slice none 0 0)] [(0, 1), (1, 1), (2, 1)] [(0, (.tmp 7)), (1, (.tmp 8)), (2, (.tmp 9))], none⟩,
    ⟨none, .store 3 (.tmp 6) (.tmp 10), none⟩])
  (.ret))
theorem fn87 : Fun Try.prog 87 11 ac87 [.cell 6 3 true] := ⟨mixedB, Try.f87, _, Try.func87, rfl, by decide +kernel, rfl, by kernel_rfl, by kernel_rfl⟩
/- glossator/glossatorlaw2.typeVar -/
def ac88 : AC := .seq
 (.reg [⟨some 2, .alloc 24 3 [(.int .i64 0), (.int .i64 0), (.slice none 0 0)], none⟩])
 (.seq
  (.reg [⟨some 3, .mov (.tmp 0), none⟩,
    ⟨some 4, .call (.func 87) [(.const (.int .i64 1)), (.tmp 3), (.const (.slice none 0 0))], none⟩,
    ⟨none, .store 3 (.tmp 2) (.tmp 4), none⟩])
  (.ret))
theorem fn88 : Fun Try.prog 88 5 ac88 [.cell 2 3 true] := ⟨mixedB, Try.f88, _, Try.func88, rfl, by decide +kernel, rfl, by kernel_rfl, by kernel_rfl⟩
/- glossator/glossatorlaw2.intType -/
def ac89 : AC := .seq
 (.reg [⟨some 0, .alloc 24 3 [(.int .i64 0), (.int .i64 0), (.slice none 0 0)], none⟩])
 (.seq
  (.reg [⟨some 1, .call (.func 87) [(.const (.int .i64 3)), (.const (.int .i64 0)), (.const (.slice none 0 0))], none⟩,
    ⟨none, .store 3 (.tmp 0) (.tmp 1), none⟩])
  (.ret))
theorem fn89 : Fun Try.prog 89 2 ac89 [.cell 0 3 true] := ⟨mixedB, Try.f89, _, Try.func89, rfl, by decide +kernel, rfl, by kernel_rfl, by kernel_rfl⟩
/- glossator/glossatorref2.TypeWellFormed -/
def ac90_l0 : AC := .seq
 (.reg [⟨some 59, .bin .lss .int (.tmp 58) (.tmp 57), none⟩])
 (.seq
  (.cond (.tmp 59)
   (.skip)
   (.exit 1))
  (.seq
   (.block 2
    (.seq
     (.reg [⟨some 60, .iaddr 3 (.tmp 56) (.tmp 58), none⟩,
       ⟨some 61, .load true 3 (.tmp 60), none⟩,
       ⟨some 7, .alloc 24 3 [(.int .i64 0), (.int .i64 0), (.slice none 0 0)], none⟩,
       ⟨none, .store 3 (.tmp 7) (.tmp 61), none⟩])
     (.seq
      (.reg [⟨some 62, .load true 3 (.tmp 7), none⟩,
        ⟨some 63, .call (.func 90) [(.tmp 62)], none⟩,
        ⟨some 64, .un .not (.tmp 63), none⟩])
      (.cond (.tmp 64)
       (.seq
        (.reg [⟨some 2, .mov (.const (.bool false)), none⟩])
        (.ret))
       (.skip)))))
   (.reg [⟨some 65, .bin .add .int (.tmp 58) (.const (.int .i64 1)), none⟩,
     ⟨some 58, .mov (.tmp 65), none⟩])))
def ac90 : AC := .seq
 (.reg [⟨some 1, .box 24 3 (.tmp 0), none⟩,
   ⟨some 2, .mov (.const (.bool false)), none⟩])
 (.seq
  (.reg [⟨some 3, .mov (.const (.int .i64 0)), none⟩,
    ⟨some 4, .mov (.const (.int .i64 0)), none⟩,
    ⟨some 5, .mov (.const (.int .i64 0)), none⟩])
  (.seq
   (.seq
    (.reg [⟨some 8, .faddr 0 (.tmp 1), none⟩,
      ⟨some 9, .load false 1 (.tmp 8), none⟩])
    (.block 0
     (.seq
      (.seq
       (.reg [⟨some 11, .bin .eql .int (.tmp 9) (.const (.int .i64 0)), none⟩,
         ⟨some 10, .mov (.tmp 11), none⟩])
       (.cond (.tmp 10)
        (.skip)
        (.seq
         (.reg [⟨some 12, .bin .eql .int (.tmp 9) (.const (.int .i64 3)), none⟩,
           ⟨some 10, .mov (.tmp 12), none⟩])
         (.cond (.tmp 10)
          (.skip)
          (.seq
           (.reg [⟨some 13, .bin .eql .int (.tmp 9) (.const (.int .i64 4)), none⟩,
             ⟨some 10, .mov (.tmp 13), none⟩])
           (.cond (.tmp 10)
            (.skip)
            (.seq
             (.reg [⟨some 14, .bin .eql .int (.tmp 9) (.const (.int .i64 5)), none⟩,
               ⟨some 10, .mov (.tmp 14), none⟩])
             (.cond (.tmp 10)
              (.skip)
              (.reg [⟨some 15, .bin .eql .int (.tmp 9) (.const (.int .i64 6)), none⟩,
                ⟨some 10, .mov (.tmp 15), none⟩])))))))))
      (.cond (.tmp 10)
       (.skip)
       (.seq
        (.seq
         (.reg [⟨some 17, .bin .eql .int (.tmp 9) (.const (.int .i64 1)), none⟩,
           ⟨some 16, .mov (.tmp 17), none⟩])
         (.cond (.tmp 16)
          (.skip)
          (.reg [⟨some 18, .bin .eql .int (.tmp 9) (.const (.int .i64 2)), none⟩,
            ⟨some 16, .mov (.tmp 18), none⟩])))
        (.cond (.tmp 16)
         (.reg [⟨some 5, .mov (.const (.int .i64 (-1))), none⟩])
         (.seq
          (.reg [⟨some 20, .bin .eql .int (.tmp 9) (.const (.int .i64 7)), none⟩,
            ⟨some 19, .mov (.tmp 20), none⟩])
          (.cond (.tmp 19)
           (.dreg [⟨some 21, .faddr 2 (.tmp 1), none⟩,
             ⟨some 22, .load false 1 (.tmp 21), none⟩,
             ⟨some 23, .slen false (.tmp 22), none⟩,
             ⟨some 5, .mov (.const (.int .i64 (-1))), none⟩,
             ⟨some 4, .mov (.tmp 23), none⟩]
             [[], [0], [1], [], [2, 3, 0, 1, 2, 3]]
             [[1], [21], [22], [], [23]])
           (.seq
            (.reg [⟨some 25, .bin .eql .int (.tmp 9) (.const (.int .i64 8)), none⟩,
              ⟨some 24, .mov (.tmp 25), none⟩])
            (.cond (.tmp 24)
             (.reg [⟨some 3, .mov (.const (.int .i64 1)), none⟩,
               ⟨some 4, .mov (.const (.int .i64 1)), none⟩,
               ⟨some 5, .mov (.const (.int .i64 1)), none⟩])
             (.seq
              (.reg [⟨some 27, .bin .eql .int (.tmp 9) (.const (.int .i64 9)), none⟩,
                ⟨some 26, .mov (.tmp 27), none⟩])
              (.cond (.tmp 26)
               (.dreg [⟨some 28, .faddr 2 (.tmp 1), none⟩,
                 ⟨some 29, .load false 1 (.tmp 28), none⟩,
                 ⟨some 30, .slen false (.tmp 29), none⟩,
                 ⟨some 3, .mov (.const (.int .i64 1)), none⟩,
                 ⟨some 4, .mov (.tmp 30), none⟩]
                 [[], [0], [1], [], [2, 3, 0, 1, 2, 3]]
                 [[1], [28], [29], [], [30]])
               (.seq
                (.reg [⟨some 32, .bin .eql .int (.tmp 9) (.const (.int .i64 10)), none⟩,
                  ⟨some 31, .mov (.tmp 32), none⟩])
                (.cond (.tmp 31)
                 (.reg [⟨some 3, .mov (.const (.int .i64 1)), none⟩,
                   ⟨some 4, .mov (.const (.int .i64 1)), none⟩,
                   ⟨some 5, .mov (.const (.int .i64 (-1))), none⟩])
                 (.seq
                  (.reg [⟨some 2, .mov (.const (.bool false)), none⟩])
                  (.ret))))))))))))))))
   (.seq
    (.seq
     (.reg [⟨some 33, .faddr 2 (.tmp 1), none⟩,
       ⟨some 34, .load false 1 (.tmp 33), none⟩,
       ⟨some 35, .slen false (.tmp 34), none⟩,
       ⟨some 36, .mov (.tmp 3), none⟩,
       ⟨some 37, .mov (.tmp 4), none⟩,
       ⟨some 38, .call (.func 78) [(.tmp 35), (.tmp 36), (.tmp 37)], none⟩,
       ⟨some 39, .un .not (.tmp 38), none⟩,
       ⟨some 40, .mov (.tmp 39), none⟩,
       ⟨some 41, .faddr 1 (.tmp 1), some (40, false)⟩,
       ⟨some 42, .load false 1 (.tmp 41), some (40, false)⟩,
       ⟨some 43, .bin .lss .int (.tmp 42) (.const (.int .i64 0)), some (40, false)⟩,
       ⟨some 44, .pick (.tmp 40) (.const (.bool true)) (.tmp 43), none⟩,
       ⟨some 45, .mov (.tmp 44), none⟩,
       ⟨some 46, .mov (.tmp 5), some (45, false)⟩,
       ⟨some 47, .bin .geq .int (.tmp 46) (.const (.int .i64 0)), some (45, false)⟩,
       ⟨some 48, .mov (.tmp 47), some (45, false)⟩,
       ⟨some 49, .faddr 1 (.tmp 1), some (48, true)⟩,
       ⟨some 50, .load false 1 (.tmp 49), some (48, true)⟩,
       ⟨some 51, .mov (.tmp 5), some (48, true)⟩,
       ⟨some 52, .bin .gtr .int (.tmp 50) (.tmp 51), some (48, true)⟩,
       ⟨some 53, .pick (.tmp 48) (.tmp 52) (.const (.bool false)), some (45, false)⟩,
       ⟨some 54, .pick (.tmp 45) (.const (.bool true)) (.tmp 53), none⟩])
     (.cond (.tmp 54)
      (.seq
       (.reg [⟨some 2, .mov (.const (.bool false)), none⟩])
       (.ret))
      (.skip)))
    (.seq
     (.seq
      (.reg [⟨some 55, .faddr 2 (.tmp 1), none⟩,
        ⟨some 56, .load false 1 (.tmp 55), none⟩,
        ⟨some 57, .slen false (.tmp 56), none⟩,
        ⟨some 58, .mov (.const (.int .i64 0)), none⟩])
      (.block 1
       (.loop ac90_l0)))
     (.seq
      (.reg [⟨some 2, .mov (.const (.bool true)), none⟩])
      (.ret))))))
theorem fn90 : Fun Try.prog 90 66 ac90 [.tmp 2] := ⟨mixedB, Try.f90, _, Try.func90, rfl, by decide +kernel, rfl, by kernel_rfl, by kernel_rfl⟩
/- glossator/glossatorref2.ContainsInt -/
def ac91_l0 : AC := .seq
 (.reg [⟨some 10, .bin .lss .int (.tmp 9) (.tmp 8), none⟩])
 (.seq
  (.cond (.tmp 10)
   (.skip)
   (.exit 0))
  (.seq
   (.block 1
    (.seq
     (.reg [⟨some 11, .iaddr 1 (.tmp 7) (.tmp 9), none⟩,
       ⟨some 12, .load false 1 (.tmp 11), none⟩,
       ⟨some 6, .mov (.tmp 12), none⟩])
     (.seq
      (.reg [⟨some 13, .mov (.tmp 6), none⟩,
        ⟨some 14, .mov (.tmp 1), none⟩,
        ⟨some 15, .bin .eql .int (.tmp 13) (.tmp 14), none⟩])
      (.cond (.tmp 15)
       (.seq
        (.reg [⟨some 4, .mov (.const (.bool true)), none⟩])
        (.ret))
       (.skip)))))
   (.reg [⟨some 16, .bin .add .int (.tmp 9) (.const (.int .i64 1)), none⟩,
     ⟨some 9, .mov (.tmp 16), none⟩])))
def ac91 : AC := .seq
 (.reg [⟨some 4, .mov (.const (.bool false)), none⟩])
 (.seq
  (.seq
   (.reg [⟨some 7, .mov (.tmp 0), none⟩,
     ⟨some 8, .slen false (.tmp 7), none⟩,
     ⟨some 9, .mov (.const (.int .i64 0)), none⟩])
   (.block 0
    (.loop ac91_l0)))
  (.seq
   (.reg [⟨some 4, .mov (.const (.bool false)), none⟩])
   (.ret)))
theorem fn91 : Fun Try.prog 91 17 ac91 [.tmp 4] := ⟨mixedB, Try.f91, _, Try.func91, rfl, by decide +kernel, rfl, by kernel_rfl, by kernel_rfl⟩
/- glossator/types.Clone$1 -/
def ac105 : AC := .seq
 (.reg [⟨some 1, .box 24 3 (.tmp 0), none⟩,
   ⟨some 2, .alloc 24 3 [(.int .i64 0), (.int .i64 0), (.slice none 0 0)], none⟩,
   ⟨some 3, .mov (.const (.bool false)), none⟩])
 (.seq
  (.reg [⟨some 4, .build [(.int .i64 0), (.int .i64 0), (.slice none 0 0)] [(0, 1), (1, 1), (2, 1)] [], none⟩,
    ⟨none, .store 3 (.tmp 2) (.tmp 4), none⟩,
    ⟨some 3, .mov (.const (.bool false)), none⟩])
  (.ret))
theorem fn105 : Fun Try.prog 105 5 ac105 [.cell 2 3 true, .tmp 3] := ⟨mixedB, Try.f105, _, Try.func105, rfl, by decide +kernel, rfl, by kernel_rfl, by kernel_rfl⟩
/- slices.IndexFunc[[]glossator/api.Type,glossator/api.Type] -/
def ac106_l0 : AC := .seq
 (.reg [⟨some 9, .bin .lss .int (.tmp 8) (.tmp 7), none⟩])
 (.seq
  (.cond (.tmp 9)
   (.skip)
   (.exit 0))
  (.seq
   (.block 1
    (.seq
     (.reg [⟨some 10, .mov (.tmp 8), none⟩,
       ⟨some 5, .mov (.tmp 10), none⟩])
     (.seq
      (.reg [⟨some 11, .mov (.tmp 1), none⟩,
        ⟨some 12, .mov (.tmp 0), none⟩,
        ⟨some 13, .mov (.tmp 5), none⟩,
        ⟨some 14, .iaddr 3 (.tmp 12) (.tmp 13), none⟩,
        ⟨some 15, .load true 3 (.tmp 14), none⟩,
        ⟨some 16, .call (.tmp 11) [(.tmp 15)], none⟩])
      (.cond (.tmp 16)
       (.seq
        (.reg [⟨some 17, .mov (.tmp 5), none⟩,
          ⟨some 4, .mov (.tmp 17), none⟩])
        (.ret))
       (.skip)))))
   (.reg [⟨some 18, .bin .add .int (.tmp 8) (.const (.int .i64 1)), none⟩,
     ⟨some 8, .mov (.tmp 18), none⟩])))
def ac106 : AC := .seq
 (.reg [⟨some 4, .mov (.const (.int .i64 0)), none⟩])
 (.seq
  (.seq
   (.reg [⟨some 6, .mov (.tmp 0), none⟩,
     ⟨some 7, .slen false (.tmp 6), none⟩,
     ⟨some 8, .mov (.const (.int .i64 0)), none⟩])
   (.block 0
    (.loop ac106_l0)))
  (.seq
   (.reg [⟨some 4, .mov (.const (.int .i64 (-1))), none⟩])
   (.ret)))
theorem fn106 : Fun Try.prog 106 19 ac106 [.tmp 4] := ⟨mixedB, Try.f106, _, Try.func106, rfl, by decide +kernel, rfl, by kernel_rfl, by kernel_rfl⟩
/- glossator/types.nodeWellFormed -/
def ac110 : AC := .seq
 (.reg [⟨some 1, .box 24 3 (.tmp 0), none⟩,
   ⟨some 2, .mov (.const (.bool false)), none⟩])
 (.seq
  (.reg [⟨some 4, .faddr 2 (.tmp 1), none⟩,
    ⟨some 5, .load false 1 (.tmp 4), none⟩,
    ⟨some 6, .slen false (.tmp 5), none⟩,
    ⟨some 3, .mov (.tmp 6), none⟩])
  (.seq
   (.seq
    (.reg [⟨some 7, .faddr 0 (.tmp 1), none⟩,
      ⟨some 8, .load false 1 (.tmp 7), none⟩])
    (.block 0
     (.seq
      (.seq
       (.reg [⟨some 10, .bin .eql .int (.tmp 8) (.const (.int .i64 0)), none⟩,
         ⟨some 9, .mov (.tmp 10), none⟩])
       (.cond (.tmp 9)
        (.skip)
        (.seq
         (.reg [⟨some 11, .bin .eql .int (.tmp 8) (.const (.int .i64 3)), none⟩,
           ⟨some 9, .mov (.tmp 11), none⟩])
         (.cond (.tmp 9)
          (.skip)
          (.seq
           (.reg [⟨some 12, .bin .eql .int (.tmp 8) (.const (.int .i64 4)), none⟩,
             ⟨some 9, .mov (.tmp 12), none⟩])
           (.cond (.tmp 9)
            (.skip)
            (.seq
             (.reg [⟨some 13, .bin .eql .int (.tmp 8) (.const (.int .i64 5)), none⟩,
               ⟨some 9, .mov (.tmp 13), none⟩])
             (.cond (.tmp 9)
              (.skip)
              (.reg [⟨some 14, .bin .eql .int (.tmp 8) (.const (.int .i64 6)), none⟩,
                ⟨some 9, .mov (.tmp 14), none⟩])))))))))
      (.cond (.tmp 9)
       (.seq
        (.reg [⟨some 15, .faddr 1 (.tmp 1), none⟩,
          ⟨some 16, .load false 1 (.tmp 15), none⟩,
          ⟨some 17, .bin .eql .int (.tmp 16) (.const (.int .i64 0)), none⟩,
          ⟨some 18, .mov (.tmp 17), none⟩,
          ⟨some 19, .mov (.tmp 3), some (18, true)⟩,
          ⟨some 20, .bin .eql .int (.tmp 19) (.const (.int .i64 0)), some (18, true)⟩,
          ⟨some 21, .pick (.tmp 18) (.tmp 20) (.const (.bool false)), none⟩,
          ⟨some 2, .mov (.tmp 21), none⟩])
        (.ret))
       (.seq
        (.seq
         (.reg [⟨some 23, .bin .eql .int (.tmp 8) (.const (.int .i64 1)), none⟩,
           ⟨some 22, .mov (.tmp 23), none⟩])
         (.cond (.tmp 22)
          (.skip)
          (.reg [⟨some 24, .bin .eql .int (.tmp 8) (.const (.int .i64 2)), none⟩,
            ⟨some 22, .mov (.tmp 24), none⟩])))
        (.cond (.tmp 22)
         (.seq
          (.reg [⟨some 25, .faddr 1 (.tmp 1), none⟩,
            ⟨some 26, .load false 1 (.tmp 25), none⟩,
            ⟨some 27, .bin .geq .int (.tmp 26) (.const (.int .i64 0)), none⟩,
            ⟨some 28, .mov (.tmp 27), none⟩,
            ⟨some 29, .mov (.tmp 3), some (28, true)⟩,
            ⟨some 30, .bin .eql .int (.tmp 29) (.const (.int .i64 0)), some (28, true)⟩,
            ⟨some 31, .pick (.tmp 28) (.tmp 30) (.const (.bool false)), none⟩,
            ⟨some 2, .mov (.tmp 31), none⟩])
          (.ret))
         (.seq
          (.reg [⟨some 33, .bin .eql .int (.tmp 8) (.const (.int .i64 7)), none⟩,
            ⟨some 32, .mov (.tmp 33), none⟩])
          (.cond (.tmp 32)
           (.seq
            (.reg [⟨some 34, .faddr 1 (.tmp 1), none⟩,
              ⟨some 35, .load false 1 (.tmp 34), none⟩,
              ⟨some 36, .bin .geq .int (.tmp 35) (.const (.int .i64 0)), none⟩,
              ⟨some 2, .mov (.tmp 36), none⟩])
            (.ret))
           (.seq
            (.reg [⟨some 38, .bin .eql .int (.tmp 8) (.const (.int .i64 8)), none⟩,
              ⟨some 37, .mov (.tmp 38), none⟩])
            (.cond (.tmp 37)
             (.seq
              (.reg [⟨some 39, .faddr 1 (.tmp 1), none⟩,
                ⟨some 40, .load false 1 (.tmp 39), none⟩,
                ⟨some 41, .bin .eql .int (.tmp 40) (.const (.int .i64 0)), none⟩,
                ⟨some 42, .mov (.tmp 41), none⟩,
                ⟨some 43, .faddr 1 (.tmp 1), some (42, false)⟩,
                ⟨some 44, .load false 1 (.tmp 43), some (42, false)⟩,
                ⟨some 45, .bin .eql .int (.tmp 44) (.const (.int .i64 1)), some (42, false)⟩,
                ⟨some 46, .pick (.tmp 42) (.const (.bool true)) (.tmp 45), none⟩,
                ⟨some 47, .mov (.tmp 46), none⟩,
                ⟨some 48, .mov (.tmp 3), some (47, true)⟩,
                ⟨some 49, .bin .eql .int (.tmp 48) (.const (.int .i64 1)), some (47, true)⟩,
                ⟨some 50, .pick (.tmp 47) (.tmp 49) (.const (.bool false)), none⟩,
                ⟨some 2, .mov (.tmp 50), none⟩])
              (.ret))
             (.seq
              (.reg [⟨some 52, .bin .eql .int (.tmp 8) (.const (.int .i64 9)), none⟩,
                ⟨some 51, .mov (.tmp 52), none⟩])
              (.cond (.tmp 51)
               (.seq
                (.reg [⟨some 53, .faddr 1 (.tmp 1), none⟩,
                  ⟨some 54, .load false 1 (.tmp 53), none⟩,
                  ⟨some 55, .bin .eql .int (.tmp 54) (.const (.int .i64 0)), none⟩,
                  ⟨some 56, .mov (.tmp 55), none⟩,
                  ⟨some 57, .mov (.tmp 3), some (56, true)⟩,
                  ⟨some 58, .bin .gtr .int (.tmp 57) (.const (.int .i64 0)), some (56, true)⟩,
                  ⟨some 59, .pick (.tmp 56) (.tmp 58) (.const (.bool false)), none⟩,
                  ⟨some 2, .mov (.tmp 59), none⟩])
                (.ret))
               (.seq
                (.reg [⟨some 61, .bin .eql .int (.tmp 8) (.const (.int .i64 10)), none⟩,
                  ⟨some 60, .mov (.tmp 61), none⟩])
                (.cond (.tmp 60)
                 (.seq
                  (.reg [⟨some 62, .faddr 1 (.tmp 1), none⟩,
                    ⟨some 63, .load false 1 (.tmp 62), none⟩,
                    ⟨some 64, .bin .geq .int (.tmp 63) (.const (.int .i64 0)), none⟩,
                    ⟨some 65, .mov (.tmp 64), none⟩,
                    ⟨some 66, .mov (.tmp 3), some (65, true)⟩,
                    ⟨some 67, .bin .eql .int (.tmp 66) (.const (.int .i64 1)), some (65, true)⟩,
                    ⟨some 68, .pick (.tmp 65) (.tmp 67) (.const (.bool false)), none⟩,
                    ⟨some 2, .mov (.tmp 68), none⟩])
                  (.ret))
                 (.skip)))))))))))))))
   (.seq
    (.reg [⟨some 2, .mov (.const (.bool false)), none⟩])
    (.ret))))
theorem fn110 : Fun Try.prog 110 69 ac110 [.tmp 2] := ⟨mixedB, Try.f110, _, Try.func110, rfl, by decide +kernel, rfl, by kernel_rfl, by kernel_rfl⟩
/- glossator/types.wellFormed$1 -/
def ac111 : AC := .seq
 (.reg [⟨some 1, .box 24 3 (.tmp 0), none⟩,
   ⟨some 2, .mov (.const (.bool false)), none⟩])
 (.seq
  (.reg [⟨some 3, .load true 3 (.tmp 1), none⟩,
    ⟨some 4, .call (.func 82) [(.tmp 3)], none⟩,
    ⟨some 5, .un .not (.tmp 4), none⟩,
    ⟨some 2, .mov (.tmp 5), none⟩])
  (.ret))
theorem fn111 : Fun Try.prog 111 6 ac111 [.tmp 2] := ⟨mixedB, Try.f111, _, Try.func111, rfl, by decide +kernel, rfl, by kernel_rfl, by kernel_rfl⟩
end Go.Proofs.Ytgphapkpoamcgaa
