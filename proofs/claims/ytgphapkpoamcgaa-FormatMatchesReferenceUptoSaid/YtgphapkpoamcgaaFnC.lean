/- The compact texts of the functions, printed by a program of mine (wip/tools/PrintFn.lean); each is shown to be what the translation compiles to. -/
import Derived.Test.YtgphapkpoamcgaaBb17
import Derived.Test.YtgphapkpoamcgaaProg
set_option maxRecDepth 100000
namespace Go.Proofs.Ytgphapkpoamcgaa
open Go Go.Ab
theorem mixedC : Try.prog.follows .mixedOrders = true := by kernel_rfl
/- glossator/glossatorlaw2.FormatMatchesReference -/
def ac11 : AC := .seq
 (.reg [⟨some 2, .box 70 3 (.tmp 0), none⟩,
   ⟨some 3, .box 24 3 (.tmp 1), none⟩,
   ⟨some 4, .mov (.const (.bool false)), none⟩])
 (.seq
  (.seq
   (.reg [⟨some 5, .call (.func 44) [], none⟩,
     ⟨some 6, .un .not (.tmp 5), none⟩])
   (.cond (.tmp 6)
    (.seq
     (.reg [⟨some 4, .mov (.const (.bool false)), none⟩])
     (.ret))
    (.skip)))
  (.seq
   (.dreg [⟨some 7, .load true 3 (.tmp 2), none⟩,
     ⟨some 8, .load true 3 (.tmp 3), none⟩,
     ⟨some 9, .call (.func 45) [(.tmp 7), (.tmp 8)], none⟩,
     ⟨some 10, .load true 3 (.tmp 2), none⟩,
     ⟨some 11, .load true 3 (.tmp 3), none⟩,
     ⟨some 12, .call (.func 46) [(.tmp 10), (.tmp 11)], none⟩,
     ⟨some 13, .bin .eql .str (.tmp 9) (.tmp 12), none⟩,
     ⟨some 4, .mov (.tmp 13), none⟩]
     [[], [], [0, 1], [], [], [3, 4, 2], [2, 5], [6, 5, 0, 1, 2, 3, 4, 5, 6]]
     [[2], [3], [7, 8], [2], [3], [10, 11], [9, 12], [13]])
   (.ret)))
theorem fn11 : Fun Try.prog 11 14 ac11 [.tmp 4] := ⟨mixedC, Try.f11, _, Try.func11, rfl, by decide +kernel, rfl, by kernel_rfl, by kernel_rfl⟩
/- glossator/glossatorlaw2.typefmtWorks -/
def ac44 : AC := .seq
 (.reg [⟨some 0, .mov (.const (.bool false)), none⟩])
 (.seq
  (.reg [⟨some 3, .build [(.int .i64 0), (.int .i64 0), (.int .i64 0), (.int .i64 0), (.string ⟨#[]⟩), (.bool false)] [(0, 1), (1, 1), (2, 1), (3, 1), (4, 1), (5, 1)] [(0, (.const (.int .i64 3))), (4, (.const (.string ⟨#[80, 97, 105, 114]⟩)))], none⟩,
    ⟨some 4, .bslice 117 6 [(.int .i64 0), (.int .i64 0), (.int .i64 0), (.int .i64 0), (.string ⟨#[]⟩), (.bool false)] 1 [(0, (.tmp 3))], none⟩,
    ⟨some 5, .build [(.slice none 0 0), (.slice none 0 0), (.slice none 0 0)] [(0, 1), (1, 1), (2, 1)] [(0, (.tmp 4))], none⟩,
    ⟨some 1, .alloc 70 3 [(.slice none 0 0), (.slice none 0 0), (.slice none 0 0)], none⟩,
    ⟨none, .store 3 (.tmp 1) (.tmp 5), none⟩])
  (.seq
   (.reg [⟨some 6, .call (.func 89) [], none⟩,
     ⟨some 7, .call (.func 88) [(.const (.int .i64 3))], none⟩,
     ⟨some 8, .bslice 24 3 [(.int .i64 0), (.int .i64 0), (.slice none 0 0)] 2 [(0, (.tmp 6)), (1, (.tmp 7))], none⟩,
     ⟨some 9, .call (.func 87) [(.const (.int .i64 7)), (.const (.int .i64 0)), (.tmp 8)], none⟩,
     ⟨some 10, .bslice 24 3 [(.int .i64 0), (.int .i64 0), (.slice none 0 0)] 1 [(0, (.tmp 9))], none⟩,
     ⟨some 11, .call (.func 87) [(.const (.int .i64 8)), (.const (.int .i64 1)), (.tmp 10)], none⟩,
     ⟨some 12, .call (.func 87) [(.const (.int .i64 4)), (.const (.int .i64 0)), (.const (.slice none 0 0))], none⟩,
     ⟨some 13, .bslice 24 3 [(.int .i64 0), (.int .i64 0), (.slice none 0 0)] 2 [(0, (.tmp 11)), (1, (.tmp 12))], none⟩,
     ⟨some 14, .call (.func 87) [(.const (.int .i64 9)), (.const (.int .i64 0)), (.tmp 13)], none⟩,
     ⟨some 2, .alloc 24 3 [(.int .i64 0), (.int .i64 0), (.slice none 0 0)], none⟩,
     ⟨none, .store 3 (.tmp 2) (.tmp 14), none⟩])
   (.seq
    (.reg [⟨some 15, .load true 3 (.tmp 1), none⟩,
      ⟨some 16, .load true 3 (.tmp 2), none⟩,
      ⟨some 17, .call (.func 45) [(.tmp 15), (.tmp 16)], none⟩,
      ⟨some 18, .bin .eql .str (.tmp 17) (.const (.string ⟨#[102, 110, 40, 38, 109, 117, 116, 32, 80, 97, 105, 114, 60, 105, 110, 116, 44, 32, 95, 62, 41, 32, 45, 62, 32, 98, 111, 111, 108]⟩)), none⟩,
      ⟨some 0, .mov (.tmp 18), none⟩])
    (.ret))))
theorem fn44 : Fun Try.prog 44 19 ac44 [.tmp 0] := ⟨mixedC, Try.f44, _, Try.func44, rfl, by decide +kernel, rfl, by kernel_rfl, by kernel_rfl⟩
/- glossator/typefmt.Format -/
def ac45 : AC := .seq
 (.reg [⟨some 2, .box 70 3 (.tmp 0), none⟩,
   ⟨some 3, .box 24 3 (.tmp 1), none⟩,
   ⟨some 4, .mov (.const (.string ⟨#[]⟩)), none⟩])
 (.seq
  (.seq
   (.reg [⟨some 6, .faddr 0 (.tmp 3), none⟩,
     ⟨some 7, .load false 1 (.tmp 6), none⟩])
   (.block 0
    (.seq
     (.reg [⟨some 9, .bin .eql .int (.tmp 7) (.const (.int .i64 3)), none⟩,
       ⟨some 8, .mov (.tmp 9), none⟩])
     (.cond (.tmp 8)
      (.seq
       (.reg [⟨some 4, .mov (.const (.string ⟨#[105, 110, 116]⟩)), none⟩])
       (.ret))
      (.seq
       (.reg [⟨some 11, .bin .eql .int (.tmp 7) (.const (.int .i64 4)), none⟩,
         ⟨some 10, .mov (.tmp 11), none⟩])
       (.cond (.tmp 10)
        (.seq
         (.reg [⟨some 4, .mov (.const (.string ⟨#[98, 111, 111, 108]⟩)), none⟩])
         (.ret))
        (.seq
         (.reg [⟨some 13, .bin .eql .int (.tmp 7) (.const (.int .i64 5)), none⟩,
           ⟨some 12, .mov (.tmp 13), none⟩])
         (.cond (.tmp 12)
          (.seq
           (.reg [⟨some 4, .mov (.const (.string ⟨#[115, 116, 114, 105, 110, 103]⟩)), none⟩])
           (.ret))
          (.seq
           (.reg [⟨some 15, .bin .eql .int (.tmp 7) (.const (.int .i64 6)), none⟩,
             ⟨some 14, .mov (.tmp 15), none⟩])
           (.cond (.tmp 14)
            (.seq
             (.reg [⟨some 4, .mov (.const (.string ⟨#[40, 41]⟩)), none⟩])
             (.ret))
            (.seq
             (.reg [⟨some 17, .bin .eql .int (.tmp 7) (.const (.int .i64 2)), none⟩,
               ⟨some 16, .mov (.tmp 17), none⟩])
             (.cond (.tmp 16)
              (.seq
               (.seq
                (.reg [⟨some 18, .faddr 1 (.tmp 3), none⟩,
                  ⟨some 19, .load false 1 (.tmp 18), none⟩,
                  ⟨some 20, .bin .geq .int (.tmp 19) (.const (.int .i64 0)), none⟩,
                  ⟨some 21, .mov (.tmp 20), none⟩,
                  ⟨some 22, .faddr 1 (.tmp 3), some (21, true)⟩,
                  ⟨some 23, .load false 1 (.tmp 22), some (21, true)⟩,
                  ⟨some 24, .faddr 0 (.tmp 2), some (21, true)⟩,
                  ⟨some 25, .load false 1 (.tmp 24), some (21, true)⟩,
                  ⟨some 26, .slen false (.tmp 25), some (21, true)⟩,
                  ⟨some 27, .bin .lss .int (.tmp 23) (.tmp 26), some (21, true)⟩,
                  ⟨some 28, .pick (.tmp 21) (.tmp 27) (.const (.bool false)), none⟩,
                  ⟨some 29, .mov (.tmp 28), none⟩,
                  ⟨some 30, .faddr 0 (.tmp 2), some (29, true)⟩,
                  ⟨some 31, .load false 1 (.tmp 30), some (29, true)⟩,
                  ⟨some 32, .faddr 1 (.tmp 3), some (29, true)⟩,
                  ⟨some 33, .load false 1 (.tmp 32), some (29, true)⟩,
                  ⟨some 34, .iaddr 6 (.tmp 31) (.tmp 33), some (29, true)⟩,
                  ⟨some 35, .faddr 0 (.tmp 34), some (29, true)⟩,
                  ⟨some 36, .load false 1 (.tmp 35), some (29, true)⟩,
                  ⟨some 37, .bin .eql .int (.tmp 36) (.const (.int .i64 5)), some (29, true)⟩,
                  ⟨some 38, .pick (.tmp 29) (.tmp 37) (.const (.bool false)), none⟩])
                (.cond (.tmp 38)
                 (.seq
                  (.reg [⟨some 4, .mov (.const (.string ⟨#[83, 101, 108, 102]⟩)), none⟩])
                  (.ret))
                 (.skip)))
               (.seq
                (.reg [⟨some 39, .load true 3 (.tmp 2), none⟩,
                  ⟨some 40, .faddr 1 (.tmp 3), none⟩,
                  ⟨some 41, .load false 1 (.tmp 40), none⟩,
                  ⟨some 42, .call (.func 92) [(.tmp 39), (.tmp 41)], none⟩,
                  ⟨some 4, .mov (.tmp 42), none⟩])
                (.ret)))
              (.seq
               (.reg [⟨some 44, .bin .eql .int (.tmp 7) (.const (.int .i64 7)), none⟩,
                 ⟨some 43, .mov (.tmp 44), none⟩])
               (.cond (.tmp 43)
                (.seq
                 (.reg [⟨some 45, .load true 3 (.tmp 2), none⟩,
                   ⟨some 46, .faddr 1 (.tmp 3), none⟩,
                   ⟨some 47, .load false 1 (.tmp 46), none⟩,
                   ⟨some 48, .call (.func 92) [(.tmp 45), (.tmp 47)], none⟩,
                   ⟨some 5, .mov (.tmp 48), none⟩])
                 (.seq
                  (.seq
                   (.reg [⟨some 49, .faddr 2 (.tmp 3), none⟩,
                     ⟨some 50, .load false 1 (.tmp 49), none⟩,
                     ⟨some 51, .slen false (.tmp 50), none⟩,
                     ⟨some 52, .bin .gtr .int (.tmp 51) (.const (.int .i64 0)), none⟩])
                   (.cond (.tmp 52)
                    (.reg [⟨some 53, .mov (.tmp 5), none⟩,
                      ⟨some 54, .load true 3 (.tmp 2), none⟩,
                      ⟨some 55, .faddr 2 (.tmp 3), none⟩,
                      ⟨some 56, .load false 1 (.tmp 55), none⟩,
                      ⟨some 57, .call (.func 93) [(.tmp 54), (.tmp 56)], none⟩,
                      ⟨some 58, .bin .add .str (.const (.string ⟨#[60]⟩)) (.tmp 57), none⟩,
                      ⟨some 59, .bin .add .str (.tmp 58) (.const (.string ⟨#[62]⟩)), none⟩,
                      ⟨some 60, .bin .add .str (.tmp 53) (.tmp 59), none⟩,
                      ⟨some 5, .mov (.tmp 60), none⟩])
                    (.skip)))
                  (.seq
                   (.reg [⟨some 61, .mov (.tmp 5), none⟩,
                     ⟨some 4, .mov (.tmp 61), none⟩])
                   (.ret))))
                (.skip)))))))))))))))
  (.seq
   (.seq
    (.reg [⟨some 62, .faddr 2 (.tmp 3), none⟩,
      ⟨some 63, .load false 1 (.tmp 62), none⟩,
      ⟨some 64, .slen false (.tmp 63), none⟩,
      ⟨some 65, .bin .eql .int (.tmp 64) (.const (.int .i64 0)), none⟩])
    (.cond (.tmp 65)
     (.seq
      (.reg [⟨some 4, .mov (.const (.string ⟨#[95]⟩)), none⟩])
      (.ret))
     (.skip)))
   (.seq
    (.seq
     (.reg [⟨some 66, .faddr 0 (.tmp 3), none⟩,
       ⟨some 67, .load false 1 (.tmp 66), none⟩])
     (.block 1
      (.seq
       (.reg [⟨some 69, .bin .eql .int (.tmp 67) (.const (.int .i64 8)), none⟩,
         ⟨some 68, .mov (.tmp 69), none⟩])
       (.cond (.tmp 68)
        (.seq
         (.seq
          (.reg [⟨some 70, .faddr 1 (.tmp 3), none⟩,
            ⟨some 71, .load false 1 (.tmp 70), none⟩,
            ⟨some 72, .bin .eql .int (.tmp 71) (.const (.int .i64 0)), none⟩])
          (.cond (.tmp 72)
           (.seq
            (.dreg [⟨some 73, .load true 3 (.tmp 2), none⟩,
              ⟨some 74, .faddr 2 (.tmp 3), none⟩,
              ⟨some 75, .load false 1 (.tmp 74), none⟩,
              ⟨some 76, .iaddr 3 (.tmp 75) (.const (.int .i64 0)), none⟩,
              ⟨some 77, .load true 3 (.tmp 76), none⟩,
              ⟨some 78, .call (.func 45) [(.tmp 73), (.tmp 77)], none⟩,
              ⟨some 79, .bin .add .str (.const (.string ⟨#[38]⟩)) (.tmp 78), none⟩,
              ⟨some 4, .mov (.tmp 79), none⟩]
              [[], [], [1], [2], [3], [0, 4], [5], [6, 5, 0, 1, 2, 3, 4, 5, 6]]
              [[2], [3], [74], [75], [76], [73, 77], [78], [79]])
            (.ret))
           (.skip)))
         (.seq
          (.dreg [⟨some 80, .load true 3 (.tmp 2), none⟩,
            ⟨some 81, .faddr 2 (.tmp 3), none⟩,
            ⟨some 82, .load false 1 (.tmp 81), none⟩,
            ⟨some 83, .iaddr 3 (.tmp 82) (.const (.int .i64 0)), none⟩,
            ⟨some 84, .load true 3 (.tmp 83), none⟩,
            ⟨some 85, .call (.func 45) [(.tmp 80), (.tmp 84)], none⟩,
            ⟨some 86, .bin .add .str (.const (.string ⟨#[38, 109, 117, 116, 32]⟩)) (.tmp 85), none⟩,
            ⟨some 4, .mov (.tmp 86), none⟩]
            [[], [], [1], [2], [3], [0, 4], [5], [6, 5, 0, 1, 2, 3, 4, 5, 6]]
            [[2], [3], [81], [82], [83], [80, 84], [85], [86]])
          (.ret)))
        (.seq
         (.reg [⟨some 88, .bin .eql .int (.tmp 67) (.const (.int .i64 9)), none⟩,
           ⟨some 87, .mov (.tmp 88), none⟩])
         (.cond (.tmp 87)
          (.seq
           (.reg [⟨some 89, .load true 3 (.tmp 2), none⟩,
             ⟨some 90, .load true 3 (.tmp 3), none⟩,
             ⟨some 91, .call (.func 94) [(.tmp 89), (.tmp 90)], none⟩,
             ⟨some 4, .mov (.tmp 91), none⟩])
           (.ret))
          (.seq
           (.reg [⟨some 93, .bin .eql .int (.tmp 67) (.const (.int .i64 10)), none⟩,
             ⟨some 92, .mov (.tmp 93), none⟩])
           (.cond (.tmp 92)
            (.seq
             (.dreg [⟨some 94, .load true 3 (.tmp 2), none⟩,
               ⟨some 95, .faddr 2 (.tmp 3), none⟩,
               ⟨some 96, .load false 1 (.tmp 95), none⟩,
               ⟨some 97, .iaddr 3 (.tmp 96) (.const (.int .i64 0)), none⟩,
               ⟨some 98, .load true 3 (.tmp 97), none⟩,
               ⟨some 99, .call (.func 45) [(.tmp 94), (.tmp 98)], none⟩,
               ⟨some 100, .bin .add .str (.tmp 99) (.const (.string ⟨#[58, 58]⟩)), none⟩,
               ⟨some 101, .load true 3 (.tmp 2), none⟩,
               ⟨some 102, .faddr 1 (.tmp 3), none⟩,
               ⟨some 103, .load false 1 (.tmp 102), none⟩,
               ⟨some 104, .call (.func 92) [(.tmp 101), (.tmp 103)], none⟩,
               ⟨some 105, .bin .add .str (.tmp 100) (.tmp 104), none⟩,
               ⟨some 4, .mov (.tmp 105), none⟩]
               [[], [], [1], [2], [3], [0, 4], [5], [], [], [8], [7, 9, 5], [6, 10], [11, 10, 0, 1, 2, 3, 4, 5, 6, 7, 8, 9, 10, 11]]
               [[2], [3], [95], [96], [97], [94, 98], [99], [2], [3], [102], [101, 103], [100, 104], [105]])
             (.ret))
            (.skip)))))))))
    (.seq
     (.reg [⟨some 4, .mov (.const (.string ⟨#[95]⟩)), none⟩])
     (.ret)))))
theorem fn45 : Fun Try.prog 45 106 ac45 [.tmp 4] := ⟨mixedC, Try.f45, _, Try.func45, rfl, by decide +kernel, rfl, by kernel_rfl, by kernel_rfl⟩
/- glossator/glossatorref2.FormatType -/
def ac46_l0 : AC := .seq
 (.reg [⟨some 30, .bin .lss .int (.tmp 29) (.tmp 28), none⟩])
 (.seq
  (.cond (.tmp 30)
   (.skip)
   (.exit 0))
  (.seq
   (.block 1
    (.seq
     (.reg [⟨some 31, .mov (.tmp 29), none⟩,
       ⟨some 32, .iaddr 3 (.tmp 27) (.tmp 29), none⟩,
       ⟨some 33, .load true 3 (.tmp 32), none⟩,
       ⟨some 9, .alloc 24 3 [(.int .i64 0), (.int .i64 0), (.slice none 0 0)], none⟩,
       ⟨some 8, .mov (.tmp 31), none⟩,
       ⟨none, .store 3 (.tmp 9) (.tmp 33), none⟩])
     (.seq
      (.seq
       (.reg [⟨some 34, .faddr 0 (.tmp 3), none⟩,
         ⟨some 35, .load false 1 (.tmp 34), none⟩,
         ⟨some 36, .bin .neq .int (.tmp 35) (.const (.int .i64 7)), none⟩,
         ⟨some 37, .mov (.tmp 36), none⟩,
         ⟨some 38, .faddr 0 (.tmp 3), some (37, true)⟩,
         ⟨some 39, .load false 1 (.tmp 38), some (37, true)⟩,
         ⟨some 40, .bin .neq .int (.tmp 39) (.const (.int .i64 9)), some (37, true)⟩,
         ⟨some 41, .pick (.tmp 37) (.tmp 40) (.const (.bool false)), none⟩,
         ⟨some 42, .mov (.tmp 41), none⟩,
         ⟨some 43, .faddr 0 (.tmp 3), some (42, false)⟩,
         ⟨some 44, .load false 1 (.tmp 43), some (42, false)⟩,
         ⟨some 45, .bin .eql .int (.tmp 44) (.const (.int .i64 9)), some (42, false)⟩,
         ⟨some 46, .mov (.tmp 45), some (42, false)⟩,
         ⟨some 47, .mov (.tmp 8), some (46, true)⟩,
         ⟨some 48, .faddr 2 (.tmp 3), some (46, true)⟩,
         ⟨some 49, .load false 1 (.tmp 48), some (46, true)⟩,
         ⟨some 50, .slen false (.tmp 49), some (46, true)⟩,
         ⟨some 51, .bin .sub .int (.tmp 50) (.const (.int .i64 1)), some (46, true)⟩,
         ⟨some 52, .bin .eql .int (.tmp 47) (.tmp 51), some (46, true)⟩,
         ⟨some 53, .pick (.tmp 46) (.tmp 52) (.const (.bool false)), some (42, false)⟩,
         ⟨some 54, .pick (.tmp 42) (.const (.bool true)) (.tmp 53), none⟩])
       (.cond (.tmp 54)
        (.exit 0)
        (.skip)))
      (.seq
       (.seq
        (.reg [⟨some 55, .mov (.tmp 8), none⟩,
          ⟨some 56, .bin .gtr .int (.tmp 55) (.const (.int .i64 0)), none⟩])
        (.cond (.tmp 56)
         (.reg [⟨some 57, .mov (.tmp 7), none⟩,
           ⟨some 58, .bin .add .str (.tmp 57) (.const (.string ⟨#[44, 32]⟩)), none⟩,
           ⟨some 7, .mov (.tmp 58), none⟩])
         (.skip)))
       (.reg [⟨some 59, .mov (.tmp 7), none⟩,
         ⟨some 60, .load true 3 (.tmp 2), none⟩,
         ⟨some 61, .load true 3 (.tmp 9), none⟩,
         ⟨some 62, .call (.func 46) [(.tmp 60), (.tmp 61)], none⟩,
         ⟨some 63, .bin .add .str (.tmp 59) (.tmp 62), none⟩,
         ⟨some 7, .mov (.tmp 63), none⟩])))))
   (.reg [⟨some 64, .bin .add .int (.tmp 29) (.const (.int .i64 1)), none⟩,
     ⟨some 29, .mov (.tmp 64), none⟩])))
def ac46 : AC := .seq
 (.reg [⟨some 2, .box 70 3 (.tmp 0), none⟩,
   ⟨some 3, .box 24 3 (.tmp 1), none⟩,
   ⟨some 4, .mov (.const (.string ⟨#[]⟩)), none⟩])
 (.seq
  (.reg [⟨some 5, .mov (.const (.string ⟨#[95]⟩)), none⟩])
  (.seq
   (.reg [⟨some 11, .faddr 1 (.tmp 3), none⟩,
     ⟨some 12, .load false 1 (.tmp 11), none⟩,
     ⟨some 13, .faddr 0 (.tmp 2), none⟩,
     ⟨some 14, .load false 1 (.tmp 13), none⟩,
     ⟨some 15, .slen false (.tmp 14), none⟩,
     ⟨some 16, .bin .sub .int (.tmp 15) (.const (.int .i64 1)), none⟩,
     ⟨some 17, .call (.func 78) [(.tmp 12), (.const (.int .i64 0)), (.tmp 16)], none⟩,
     ⟨some 6, .mov (.tmp 17), none⟩])
   (.seq
    (.seq
     (.reg [⟨some 18, .mov (.tmp 6), none⟩])
     (.cond (.tmp 18)
      (.reg [⟨some 19, .faddr 0 (.tmp 2), none⟩,
        ⟨some 20, .load false 1 (.tmp 19), none⟩,
        ⟨some 21, .faddr 1 (.tmp 3), none⟩,
        ⟨some 22, .load false 1 (.tmp 21), none⟩,
        ⟨some 23, .iaddr 6 (.tmp 20) (.tmp 22), none⟩,
        ⟨some 24, .faddr 4 (.tmp 23), none⟩,
        ⟨some 25, .load false 1 (.tmp 24), none⟩,
        ⟨some 5, .mov (.tmp 25), none⟩])
      (.skip)))
    (.seq
     (.reg [⟨some 7, .mov (.const (.string ⟨#[]⟩)), none⟩])
     (.seq
      (.seq
       (.reg [⟨some 26, .faddr 2 (.tmp 3), none⟩,
         ⟨some 27, .load false 1 (.tmp 26), none⟩,
         ⟨some 28, .slen false (.tmp 27), none⟩,
         ⟨some 29, .mov (.const (.int .i64 0)), none⟩])
       (.block 0
        (.loop ac46_l0)))
      (.seq
       (.reg [⟨some 65, .faddr 2 (.tmp 3), none⟩,
         ⟨some 66, .load false 1 (.tmp 65), none⟩,
         ⟨some 67, .slen false (.tmp 66), none⟩,
         ⟨some 10, .mov (.tmp 67), none⟩])
       (.seq
        (.block 2
         (.seq
          (.reg [⟨some 69, .faddr 0 (.tmp 3), none⟩,
            ⟨some 70, .load false 1 (.tmp 69), none⟩,
            ⟨some 71, .bin .eql .int (.tmp 70) (.const (.int .i64 3)), none⟩,
            ⟨some 68, .mov (.tmp 71), none⟩])
          (.cond (.tmp 68)
           (.seq
            (.reg [⟨some 4, .mov (.const (.string ⟨#[105, 110, 116]⟩)), none⟩])
            (.ret))
           (.seq
            (.reg [⟨some 73, .faddr 0 (.tmp 3), none⟩,
              ⟨some 74, .load false 1 (.tmp 73), none⟩,
              ⟨some 75, .bin .eql .int (.tmp 74) (.const (.int .i64 4)), none⟩,
              ⟨some 72, .mov (.tmp 75), none⟩])
            (.cond (.tmp 72)
             (.seq
              (.reg [⟨some 4, .mov (.const (.string ⟨#[98, 111, 111, 108]⟩)), none⟩])
              (.ret))
             (.seq
              (.reg [⟨some 77, .faddr 0 (.tmp 3), none⟩,
                ⟨some 78, .load false 1 (.tmp 77), none⟩,
                ⟨some 79, .bin .eql .int (.tmp 78) (.const (.int .i64 5)), none⟩,
                ⟨some 76, .mov (.tmp 79), none⟩])
              (.cond (.tmp 76)
               (.seq
                (.reg [⟨some 4, .mov (.const (.string ⟨#[115, 116, 114, 105, 110, 103]⟩)), none⟩])
                (.ret))
               (.seq
                (.reg [⟨some 81, .faddr 0 (.tmp 3), none⟩,
                  ⟨some 82, .load false 1 (.tmp 81), none⟩,
                  ⟨some 83, .bin .eql .int (.tmp 82) (.const (.int .i64 6)), none⟩,
                  ⟨some 80, .mov (.tmp 83), none⟩])
                (.cond (.tmp 80)
                 (.seq
                  (.reg [⟨some 4, .mov (.const (.string ⟨#[40, 41]⟩)), none⟩])
                  (.ret))
                 (.seq
                  (.reg [⟨some 85, .faddr 0 (.tmp 3), none⟩,
                    ⟨some 86, .load false 1 (.tmp 85), none⟩,
                    ⟨some 87, .bin .eql .int (.tmp 86) (.const (.int .i64 2)), none⟩,
                    ⟨some 88, .mov (.tmp 87), none⟩,
                    ⟨some 89, .mov (.tmp 6), some (88, true)⟩,
                    ⟨some 90, .pick (.tmp 88) (.tmp 89) (.const (.bool false)), none⟩,
                    ⟨some 91, .mov (.tmp 90), none⟩,
                    ⟨some 92, .faddr 0 (.tmp 2), some (91, true)⟩,
                    ⟨some 93, .load false 1 (.tmp 92), some (91, true)⟩,
                    ⟨some 94, .faddr 1 (.tmp 3), some (91, true)⟩,
                    ⟨some 95, .load false 1 (.tmp 94), some (91, true)⟩,
                    ⟨some 96, .iaddr 6 (.tmp 93) (.tmp 95), some (91, true)⟩,
                    ⟨some 97, .faddr 0 (.tmp 96), some (91, true)⟩,
                    ⟨some 98, .load false 1 (.tmp 97), some (91, true)⟩,
                    ⟨some 99, .bin .eql .int (.tmp 98) (.const (.int .i64 5)), some (91, true)⟩,
                    ⟨some 100, .pick (.tmp 91) (.tmp 99) (.const (.bool false)), none⟩,
                    ⟨some 84, .mov (.tmp 100), none⟩])
                  (.cond (.tmp 84)
                   (.seq
                    (.reg [⟨some 4, .mov (.const (.string ⟨#[83, 101, 108, 102]⟩)), none⟩])
                    (.ret))
                   (.seq
                    (.reg [⟨some 102, .faddr 0 (.tmp 3), none⟩,
                      ⟨some 103, .load false 1 (.tmp 102), none⟩,
                      ⟨some 104, .bin .eql .int (.tmp 103) (.const (.int .i64 2)), none⟩,
                      ⟨some 105, .mov (.tmp 104), none⟩,
                      ⟨some 106, .faddr 0 (.tmp 3), some (105, false)⟩,
                      ⟨some 107, .load false 1 (.tmp 106), some (105, false)⟩,
                      ⟨some 108, .bin .eql .int (.tmp 107) (.const (.int .i64 7)), some (105, false)⟩,
                      ⟨some 109, .mov (.tmp 108), some (105, false)⟩,
                      ⟨some 110, .mov (.tmp 10), some (109, true)⟩,
                      ⟨some 111, .bin .eql .int (.tmp 110) (.const (.int .i64 0)), some (109, true)⟩,
                      ⟨some 112, .pick (.tmp 109) (.tmp 111) (.const (.bool false)), some (105, false)⟩,
                      ⟨some 113, .pick (.tmp 105) (.const (.bool true)) (.tmp 112), none⟩,
                      ⟨some 101, .mov (.tmp 113), none⟩])
                    (.cond (.tmp 101)
                     (.seq
                      (.reg [⟨some 114, .mov (.tmp 5), none⟩,
                        ⟨some 4, .mov (.tmp 114), none⟩])
                      (.ret))
                     (.seq
                      (.reg [⟨some 116, .faddr 0 (.tmp 3), none⟩,
                        ⟨some 117, .load false 1 (.tmp 116), none⟩,
                        ⟨some 118, .bin .eql .int (.tmp 117) (.const (.int .i64 7)), none⟩,
                        ⟨some 115, .mov (.tmp 118), none⟩])
                      (.cond (.tmp 115)
                       (.seq
                        (.reg [⟨some 119, .mov (.tmp 5), none⟩,
                          ⟨some 120, .bin .add .str (.tmp 119) (.const (.string ⟨#[60]⟩)), none⟩,
                          ⟨some 121, .mov (.tmp 7), none⟩,
                          ⟨some 122, .bin .add .str (.tmp 120) (.tmp 121), none⟩,
                          ⟨some 123, .bin .add .str (.tmp 122) (.const (.string ⟨#[62]⟩)), none⟩,
                          ⟨some 4, .mov (.tmp 123), none⟩])
                        (.ret))
                       (.seq
                        (.reg [⟨some 125, .mov (.tmp 10), none⟩,
                          ⟨some 126, .bin .eql .int (.tmp 125) (.const (.int .i64 0)), none⟩,
                          ⟨some 127, .mov (.tmp 126), none⟩,
                          ⟨some 128, .faddr 0 (.tmp 3), some (127, false)⟩,
                          ⟨some 129, .load false 1 (.tmp 128), some (127, false)⟩,
                          ⟨some 130, .bin .lss .int (.tmp 129) (.const (.int .i64 8)), some (127, false)⟩,
                          ⟨some 131, .pick (.tmp 127) (.const (.bool true)) (.tmp 130), none⟩,
                          ⟨some 132, .mov (.tmp 131), none⟩,
                          ⟨some 133, .faddr 0 (.tmp 3), some (132, false)⟩,
                          ⟨some 134, .load false 1 (.tmp 133), some (132, false)⟩,
                          ⟨some 135, .bin .gtr .int (.tmp 134) (.const (.int .i64 10)), some (132, false)⟩,
                          ⟨some 136, .pick (.tmp 132) (.const (.bool true)) (.tmp 135), none⟩,
                          ⟨some 124, .mov (.tmp 136), none⟩])
                        (.cond (.tmp 124)
                         (.seq
                          (.reg [⟨some 4, .mov (.const (.string ⟨#[95]⟩)), none⟩])
                          (.ret))
                         (.seq
                          (.reg [⟨some 138, .faddr 0 (.tmp 3), none⟩,
                            ⟨some 139, .load false 1 (.tmp 138), none⟩,
                            ⟨some 140, .bin .eql .int (.tmp 139) (.const (.int .i64 8)), none⟩,
                            ⟨some 141, .mov (.tmp 140), none⟩,
                            ⟨some 142, .faddr 1 (.tmp 3), some (141, true)⟩,
                            ⟨some 143, .load false 1 (.tmp 142), some (141, true)⟩,
                            ⟨some 144, .bin .eql .int (.tmp 143) (.const (.int .i64 0)), some (141, true)⟩,
                            ⟨some 145, .pick (.tmp 141) (.tmp 144) (.const (.bool false)), none⟩,
                            ⟨some 137, .mov (.tmp 145), none⟩])
                          (.cond (.tmp 137)
                           (.seq
                            (.dreg [⟨some 146, .load true 3 (.tmp 2), none⟩,
                              ⟨some 147, .faddr 2 (.tmp 3), none⟩,
                              ⟨some 148, .load false 1 (.tmp 147), none⟩,
                              ⟨some 149, .iaddr 3 (.tmp 148) (.const (.int .i64 0)), none⟩,
                              ⟨some 150, .load true 3 (.tmp 149), none⟩,
                              ⟨some 151, .call (.func 46) [(.tmp 146), (.tmp 150)], none⟩,
                              ⟨some 152, .bin .add .str (.const (.string ⟨#[38]⟩)) (.tmp 151), none⟩,
                              ⟨some 4, .mov (.tmp 152), none⟩]
                              [[], [], [1], [2], [3], [0, 4], [5], [6, 5, 0, 1, 2, 3, 4, 5, 6]]
                              [[2], [3], [147], [148], [149], [146, 150], [151], [152]])
                            (.ret))
                           (.seq
                            (.reg [⟨some 154, .faddr 0 (.tmp 3), none⟩,
                              ⟨some 155, .load false 1 (.tmp 154), none⟩,
                              ⟨some 156, .bin .eql .int (.tmp 155) (.const (.int .i64 8)), none⟩,
                              ⟨some 153, .mov (.tmp 156), none⟩])
                            (.cond (.tmp 153)
                             (.seq
                              (.dreg [⟨some 157, .load true 3 (.tmp 2), none⟩,
                                ⟨some 158, .faddr 2 (.tmp 3), none⟩,
                                ⟨some 159, .load false 1 (.tmp 158), none⟩,
                                ⟨some 160, .iaddr 3 (.tmp 159) (.const (.int .i64 0)), none⟩,
                                ⟨some 161, .load true 3 (.tmp 160), none⟩,
                                ⟨some 162, .call (.func 46) [(.tmp 157), (.tmp 161)], none⟩,
                                ⟨some 163, .bin .add .str (.const (.string ⟨#[38, 109, 117, 116, 32]⟩)) (.tmp 162), none⟩,
                                ⟨some 4, .mov (.tmp 163), none⟩]
                                [[], [], [1], [2], [3], [0, 4], [5], [6, 5, 0, 1, 2, 3, 4, 5, 6]]
                                [[2], [3], [158], [159], [160], [157, 161], [162], [163]])
                              (.ret))
                             (.seq
                              (.reg [⟨some 165, .faddr 0 (.tmp 3), none⟩,
                                ⟨some 166, .load false 1 (.tmp 165), none⟩,
                                ⟨some 167, .bin .eql .int (.tmp 166) (.const (.int .i64 10)), none⟩,
                                ⟨some 164, .mov (.tmp 167), none⟩])
                              (.cond (.tmp 164)
                               (.seq
                                (.dreg [⟨some 168, .load true 3 (.tmp 2), none⟩,
                                  ⟨some 169, .faddr 2 (.tmp 3), none⟩,
                                  ⟨some 170, .load false 1 (.tmp 169), none⟩,
                                  ⟨some 171, .iaddr 3 (.tmp 170) (.const (.int .i64 0)), none⟩,
                                  ⟨some 172, .load true 3 (.tmp 171), none⟩,
                                  ⟨some 173, .call (.func 46) [(.tmp 168), (.tmp 172)], none⟩,
                                  ⟨some 174, .bin .add .str (.tmp 173) (.const (.string ⟨#[58, 58]⟩)), none⟩,
                                  ⟨some 175, .mov (.tmp 5), none⟩,
                                  ⟨some 176, .bin .add .str (.tmp 174) (.tmp 175), none⟩,
                                  ⟨some 4, .mov (.tmp 176), none⟩]
                                  [[], [], [1], [2], [3], [0, 4], [5], [], [6, 7], [8, 5, 0, 1, 2, 3, 4, 5, 6, 7, 8]]
                                  [[2], [3], [169], [170], [171], [168, 172], [173], [5], [174, 175], [176]])
                                (.ret))
                               (.seq
                                (.reg [⟨some 178, .faddr 2 (.tmp 3), none⟩,
                                  ⟨some 179, .load false 1 (.tmp 178), none⟩,
                                  ⟨some 180, .mov (.tmp 10), none⟩,
                                  ⟨some 181, .bin .sub .int (.tmp 180) (.const (.int .i64 1)), none⟩,
                                  ⟨some 182, .iaddr 3 (.tmp 179) (.tmp 181), none⟩,
                                  ⟨some 183, .faddr 0 (.tmp 182), none⟩,
                                  ⟨some 184, .load false 1 (.tmp 183), none⟩,
                                  ⟨some 185, .bin .eql .int (.tmp 184) (.const (.int .i64 6)), none⟩,
                                  ⟨some 177, .mov (.tmp 185), none⟩])
                                (.cond (.tmp 177)
                                 (.seq
                                  (.reg [⟨some 186, .mov (.tmp 7), none⟩,
                                    ⟨some 187, .bin .add .str (.const (.string ⟨#[102, 110, 40]⟩)) (.tmp 186), none⟩,
                                    ⟨some 188, .bin .add .str (.tmp 187) (.const (.string ⟨#[41]⟩)), none⟩,
                                    ⟨some 4, .mov (.tmp 188), none⟩])
                                  (.ret))
                                 (.skip))))))))))))))))))))))))))
        (.seq
         (.dreg [⟨some 189, .mov (.tmp 7), none⟩,
           ⟨some 190, .bin .add .str (.const (.string ⟨#[102, 110, 40]⟩)) (.tmp 189), none⟩,
           ⟨some 191, .bin .add .str (.tmp 190) (.const (.string ⟨#[41, 32, 45, 62, 32]⟩)), none⟩,
           ⟨some 192, .load true 3 (.tmp 2), none⟩,
           ⟨some 193, .faddr 2 (.tmp 3), none⟩,
           ⟨some 194, .load false 1 (.tmp 193), none⟩,
           ⟨some 195, .mov (.tmp 10), none⟩,
           ⟨some 196, .bin .sub .int (.tmp 195) (.const (.int .i64 1)), none⟩,
           ⟨some 197, .iaddr 3 (.tmp 194) (.tmp 196), none⟩,
           ⟨some 198, .load true 3 (.tmp 197), none⟩,
           ⟨some 199, .call (.func 46) [(.tmp 192), (.tmp 198)], none⟩,
           ⟨some 200, .bin .add .str (.tmp 191) (.tmp 199), none⟩,
           ⟨some 4, .mov (.tmp 200), none⟩]
           [[], [0], [1], [], [], [4], [], [6], [5, 7], [8], [3, 9], [2, 10], [11, 10, 0, 1, 2, 3, 4, 5, 6, 7, 8, 9, 10, 11]]
           [[7], [189], [190], [2], [3], [193], [10], [195], [194, 196], [197], [192, 198], [191, 199], [200]])
         (.ret)))))))))
theorem fn46 : Fun Try.prog 46 201 ac46 [.tmp 4] := ⟨mixedC, Try.f46, _, Try.func46, rfl, by decide +kernel, rfl, by kernel_rfl, by kernel_rfl⟩
/- glossator/typefmt.symbolName -/
def ac92 : AC := .seq
 (.reg [⟨some 2, .box 70 3 (.tmp 0), none⟩,
   ⟨some 4, .mov (.const (.string ⟨#[]⟩)), none⟩])
 (.seq
  (.seq
   (.reg [⟨some 5, .mov (.tmp 1), none⟩,
     ⟨some 6, .bin .lss .int (.tmp 5) (.const (.int .i64 0)), none⟩,
     ⟨some 7, .mov (.tmp 6), none⟩,
     ⟨some 8, .mov (.tmp 1), some (7, false)⟩,
     ⟨some 9, .faddr 0 (.tmp 2), some (7, false)⟩,
     ⟨some 10, .load false 1 (.tmp 9), some (7, false)⟩,
     ⟨some 11, .slen false (.tmp 10), some (7, false)⟩,
     ⟨some 12, .bin .geq .int (.tmp 8) (.tmp 11), some (7, false)⟩,
     ⟨some 13, .pick (.tmp 7) (.const (.bool true)) (.tmp 12), none⟩])
   (.cond (.tmp 13)
    (.seq
     (.reg [⟨some 4, .mov (.const (.string ⟨#[95]⟩)), none⟩])
     (.ret))
    (.skip)))
  (.seq
   (.reg [⟨some 14, .faddr 0 (.tmp 2), none⟩,
     ⟨some 15, .load false 1 (.tmp 14), none⟩,
     ⟨some 16, .mov (.tmp 1), none⟩,
     ⟨some 17, .iaddr 6 (.tmp 15) (.tmp 16), none⟩,
     ⟨some 18, .faddr 4 (.tmp 17), none⟩,
     ⟨some 19, .load false 1 (.tmp 18), none⟩,
     ⟨some 4, .mov (.tmp 19), none⟩])
   (.ret)))
theorem fn92 : Fun Try.prog 92 20 ac92 [.tmp 4] := ⟨mixedC, Try.f92, _, Try.func92, rfl, by decide +kernel, rfl, by kernel_rfl, by kernel_rfl⟩
/- glossator/typefmt.formatList -/
def ac93_l0 : AC := .seq
 (.reg [⟨some 11, .bin .lss .int (.tmp 10) (.tmp 9), none⟩])
 (.seq
  (.cond (.tmp 11)
   (.skip)
   (.exit 0))
  (.seq
   (.block 1
    (.seq
     (.reg [⟨some 12, .iaddr 3 (.tmp 8) (.tmp 10), none⟩,
       ⟨some 13, .load true 3 (.tmp 12), none⟩,
       ⟨some 7, .alloc 24 3 [(.int .i64 0), (.int .i64 0), (.slice none 0 0)], none⟩,
       ⟨none, .store 3 (.tmp 7) (.tmp 13), none⟩])
     (.reg [⟨some 14, .mov (.tmp 5), none⟩,
       ⟨some 15, .load true 3 (.tmp 2), none⟩,
       ⟨some 16, .load true 3 (.tmp 7), none⟩,
       ⟨some 17, .call (.func 45) [(.tmp 15), (.tmp 16)], none⟩,
       ⟨some 18, .bslice 9 1 [(.string ⟨#[]⟩)] 1 [(0, (.tmp 17))], none⟩,
       ⟨some 19, .app 9 1 (.tmp 14) (.tmp 18), none⟩,
       ⟨some 5, .mov (.tmp 19), none⟩])))
   (.reg [⟨some 20, .bin .add .int (.tmp 10) (.const (.int .i64 1)), none⟩,
     ⟨some 10, .mov (.tmp 20), none⟩])))
def ac93 : AC := .seq
 (.reg [⟨some 2, .box 70 3 (.tmp 0), none⟩,
   ⟨some 4, .mov (.const (.string ⟨#[]⟩)), none⟩])
 (.seq
  (.reg [⟨some 5, .mov (.const (.slice none 0 0)), none⟩])
  (.seq
   (.seq
    (.reg [⟨some 8, .mov (.tmp 1), none⟩,
      ⟨some 9, .slen false (.tmp 8), none⟩,
      ⟨some 10, .mov (.const (.int .i64 0)), none⟩])
    (.block 0
     (.loop ac93_l0)))
   (.seq
    (.reg [⟨some 21, .mov (.tmp 5), none⟩,
      ⟨some 22, .call (.func 112) [(.tmp 21), (.const (.string ⟨#[44, 32]⟩))], none⟩,
      ⟨some 4, .mov (.tmp 22), none⟩])
    (.ret))))
theorem fn93 : Fun Try.prog 93 23 ac93 [.tmp 4] := ⟨mixedC, Try.f93, _, Try.func93, rfl, by decide +kernel, rfl, by kernel_rfl, by kernel_rfl⟩
/- glossator/typefmt.formatFunc -/
def ac94 : AC := .seq
 (.reg [⟨some 2, .box 70 3 (.tmp 0), none⟩,
   ⟨some 3, .box 24 3 (.tmp 1), none⟩,
   ⟨some 4, .mov (.const (.string ⟨#[]⟩)), none⟩])
 (.seq
  (.reg [⟨some 7, .faddr 2 (.tmp 3), none⟩,
    ⟨some 8, .load false 1 (.tmp 7), none⟩,
    ⟨some 9, .slen false (.tmp 8), none⟩,
    ⟨some 10, .bin .sub .int (.tmp 9) (.const (.int .i64 1)), none⟩,
    ⟨some 5, .mov (.tmp 10), none⟩])
  (.seq
   (.dreg [⟨some 11, .load true 3 (.tmp 2), none⟩,
     ⟨some 12, .faddr 2 (.tmp 3), none⟩,
     ⟨some 13, .load false 1 (.tmp 12), none⟩,
     ⟨some 14, .mov (.tmp 5), none⟩,
     ⟨some 15, .slice 3 (.tmp 13) none (some (.tmp 14)) none, none⟩,
     ⟨some 16, .call (.func 93) [(.tmp 11), (.tmp 15)], none⟩,
     ⟨some 17, .bin .add .str (.const (.string ⟨#[102, 110, 40]⟩)) (.tmp 16), none⟩,
     ⟨some 18, .bin .add .str (.tmp 17) (.const (.string ⟨#[41]⟩)), none⟩,
     ⟨some 6, .mov (.tmp 18), none⟩]
     [[], [], [1], [], [2, 3], [0, 4], [5], [6], [7, 5, 0, 1, 2, 3, 4, 5, 6, 7]]
     [[2], [3], [12], [5], [13, 14], [11, 15], [16], [17], [18]])
   (.seq
    (.seq
     (.reg [⟨some 19, .faddr 2 (.tmp 3), none⟩,
       ⟨some 20, .load false 1 (.tmp 19), none⟩,
       ⟨some 21, .mov (.tmp 5), none⟩,
       ⟨some 22, .iaddr 3 (.tmp 20) (.tmp 21), none⟩,
       ⟨some 23, .faddr 0 (.tmp 22), none⟩,
       ⟨some 24, .load false 1 (.tmp 23), none⟩,
       ⟨some 25, .bin .neq .int (.tmp 24) (.const (.int .i64 6)), none⟩])
     (.cond (.tmp 25)
      (.dreg [⟨some 26, .mov (.tmp 6), none⟩,
        ⟨some 27, .load true 3 (.tmp 2), none⟩,
        ⟨some 28, .faddr 2 (.tmp 3), none⟩,
        ⟨some 29, .load false 1 (.tmp 28), none⟩,
        ⟨some 30, .mov (.tmp 5), none⟩,
        ⟨some 31, .iaddr 3 (.tmp 29) (.tmp 30), none⟩,
        ⟨some 32, .load true 3 (.tmp 31), none⟩,
        ⟨some 33, .call (.func 45) [(.tmp 27), (.tmp 32)], none⟩,
        ⟨some 34, .bin .add .str (.const (.string ⟨#[32, 45, 62, 32]⟩)) (.tmp 33), none⟩,
        ⟨some 35, .bin .add .str (.tmp 26) (.tmp 34), none⟩,
        ⟨some 6, .mov (.tmp 35), none⟩]
        [[], [], [], [2], [], [3, 4], [5], [1, 6], [7], [0, 8], [9, 7, 0, 1, 2, 3, 4, 5, 6, 7, 8, 9]]
        [[6], [2], [3], [28], [5], [29, 30], [31], [27, 32], [33], [26, 34], [35]])
      (.skip)))
    (.seq
     (.reg [⟨some 36, .mov (.tmp 6), none⟩,
       ⟨some 4, .mov (.tmp 36), none⟩])
     (.ret)))))
theorem fn94 : Fun Try.prog 94 37 ac94 [.tmp 4] := ⟨mixedC, Try.f94, _, Try.func94, rfl, by decide +kernel, rfl, by kernel_rfl, by kernel_rfl⟩
end Go.Proofs.Ytgphapkpoamcgaa
