/- The compact texts of the functions, printed by a program of mine (wip/tools/PrintFn.lean); each is shown to be what the translation compiles to. -/
import Derived.Test.YtbdoblgofddhdaaL2
import Derived.Test.YtbdoblgofddhdaaProg
set_option maxRecDepth 100000
namespace Go.Proofs.Ytbdoblgofddhdaa
open Go Go.Ab
theorem mixedR : Try.prog.follows .mixedOrders = true := by kernel_rfl
/- glossator/glossatorkeep2.AddingRowsPreservesExhaustiveness -/
def ac11 : AC := .seq
 (.reg [⟨some 8, .mov (.const (.bool false)), none⟩])
 (.seq
  (.seq
   (.reg [⟨some 17, .call (.func 52) [], none⟩,
     ⟨some 18, .un .not (.tmp 17), none⟩])
   (.cond (.tmp 18)
    (.seq
     (.reg [⟨some 8, .mov (.const (.bool false)), none⟩])
     (.ret))
    (.skip)))
  (.seq
   (.reg [⟨some 19, .mov (.tmp 2), none⟩,
     ⟨some 20, .call (.func 53) [(.tmp 19)], none⟩,
     ⟨some 21, .mov (.tmp 3), none⟩,
     ⟨some 22, .bslice 64 1 [(.slice none 0 0)] 1 [(0, (.tmp 21))], none⟩,
     ⟨some 23, .app 64 1 (.tmp 20) (.tmp 22), none⟩,
     ⟨some 9, .mov (.tmp 23), none⟩])
   (.seq
    (.seq
     (.reg [⟨some 24, .call (.func 52) [], none⟩,
       ⟨some 25, .un .not (.tmp 24), none⟩,
       ⟨some 26, .mov (.tmp 25), none⟩,
       ⟨some 27, .mov (.tmp 0), some (26, false)⟩,
       ⟨some 28, .mov (.tmp 1), some (26, false)⟩,
       ⟨some 29, .mov (.tmp 9), some (26, false)⟩,
       ⟨some 30, .call (.func 41) [(.tmp 27), (.tmp 28), (.tmp 29)], some (26, false)⟩,
       ⟨some 31, .bin .neq .int (.tmp 30) (.const (.int .i64 0)), some (26, false)⟩,
       ⟨some 32, .pick (.tmp 26) (.const (.bool true)) (.tmp 31), none⟩,
       ⟨some 33, .mov (.tmp 32), none⟩,
       ⟨some 34, .mov (.tmp 2), some (33, false)⟩,
       ⟨some 35, .slen false (.tmp 34), some (33, false)⟩,
       ⟨some 36, .bin .gtr .int (.tmp 35) (.const (.int .i64 10)), some (33, false)⟩,
       ⟨some 37, .pick (.tmp 33) (.const (.bool true)) (.tmp 36), none⟩,
       ⟨some 38, .mov (.tmp 37), none⟩,
       ⟨some 39, .mov (.tmp 0), some (38, false)⟩,
       ⟨some 40, .call (.func 45) [(.tmp 39)], some (38, false)⟩,
       ⟨some 41, .un .not (.tmp 40), some (38, false)⟩,
       ⟨some 42, .pick (.tmp 38) (.const (.bool true)) (.tmp 41), none⟩,
       ⟨some 43, .mov (.tmp 42), none⟩,
       ⟨some 44, .mov (.tmp 1), some (43, false)⟩,
       ⟨some 45, .slen false (.tmp 44), some (43, false)⟩,
       ⟨some 46, .bin .eql .int (.tmp 45) (.const (.int .i64 0)), some (43, false)⟩,
       ⟨some 47, .pick (.tmp 43) (.const (.bool true)) (.tmp 46), none⟩])
     (.cond (.tmp 47)
      (.seq
       (.reg [⟨some 48, .call (.func 52) [], none⟩,
         ⟨some 8, .mov (.tmp 48), none⟩])
       (.ret))
      (.skip)))
    (.seq
     (.reg [⟨some 50, .mov (.tmp 0), none⟩,
       ⟨some 51, .mov (.tmp 1), none⟩,
       ⟨some 52, .mov (.tmp 2), none⟩,
       ⟨some 53, .call (.func 42) [(.tmp 50), (.tmp 51), (.tmp 52)], none⟩,
       ⟨some 49, .mov (.tmp 53), none⟩,
       ⟨some 54, .ext (.tmp 49) 0, none⟩,
       ⟨some 55, .ext (.tmp 49) 1, none⟩,
       ⟨some 10, .mov (.tmp 54), none⟩,
       ⟨some 11, .mov (.tmp 55), none⟩])
     (.seq
      (.reg [⟨some 57, .mov (.tmp 0), none⟩,
        ⟨some 58, .mov (.tmp 1), none⟩,
        ⟨some 59, .mov (.tmp 9), none⟩,
        ⟨some 60, .call (.func 42) [(.tmp 57), (.tmp 58), (.tmp 59)], none⟩,
        ⟨some 56, .mov (.tmp 60), none⟩,
        ⟨some 61, .ext (.tmp 56) 0, none⟩,
        ⟨some 62, .ext (.tmp 56) 1, none⟩,
        ⟨some 12, .mov (.tmp 61), none⟩,
        ⟨some 13, .mov (.tmp 62), none⟩])
      (.seq
       (.reg [⟨some 63, .mov (.tmp 1), none⟩,
         ⟨some 64, .slen false (.tmp 63), none⟩,
         ⟨some 65, .mkslice 127 3 [(.int .i64 0), (.int .i64 0), (.slice none 0 0)] (.tmp 64) (.tmp 64), none⟩,
         ⟨some 66, .bslice 64 1 [(.slice none 0 0)] 1 [(0, (.tmp 65))], none⟩,
         ⟨some 67, .mov (.tmp 2), none⟩,
         ⟨some 68, .app 64 1 (.tmp 66) (.tmp 67), none⟩,
         ⟨some 14, .mov (.tmp 68), none⟩])
       (.seq
        (.reg [⟨some 70, .mov (.tmp 0), none⟩,
          ⟨some 71, .mov (.tmp 1), none⟩,
          ⟨some 72, .mov (.tmp 14), none⟩,
          ⟨some 73, .call (.func 42) [(.tmp 70), (.tmp 71), (.tmp 72)], none⟩,
          ⟨some 69, .mov (.tmp 73), none⟩,
          ⟨some 74, .ext (.tmp 69) 0, none⟩,
          ⟨some 75, .ext (.tmp 69) 1, none⟩,
          ⟨some 15, .mov (.tmp 74), none⟩,
          ⟨some 16, .mov (.tmp 75), none⟩])
        (.seq
         (.reg [⟨some 76, .mov (.tmp 11), none⟩,
           ⟨some 77, .mov (.tmp 76), none⟩,
           ⟨some 78, .mov (.tmp 13), some (77, false)⟩,
           ⟨some 79, .un .not (.tmp 78), some (77, false)⟩,
           ⟨some 80, .pick (.tmp 77) (.const (.bool true)) (.tmp 79), none⟩,
           ⟨some 81, .mov (.tmp 80), none⟩,
           ⟨some 82, .mov (.tmp 16), some (81, true)⟩,
           ⟨some 83, .un .not (.tmp 82), some (81, true)⟩,
           ⟨some 84, .pick (.tmp 81) (.tmp 83) (.const (.bool false)), none⟩,
           ⟨some 85, .mov (.tmp 84), none⟩,
           ⟨some 86, .mov (.tmp 0), some (85, true)⟩,
           ⟨some 87, .mov (.tmp 1), some (85, true)⟩,
           ⟨some 88, .mov (.tmp 14), some (85, true)⟩,
           ⟨some 89, .call (.func 43) [(.tmp 86), (.tmp 87), (.tmp 88)], some (85, true)⟩,
           ⟨some 90, .slen false (.tmp 89), some (85, true)⟩,
           ⟨some 91, .mov (.tmp 2), some (85, true)⟩,
           ⟨some 92, .slen false (.tmp 91), some (85, true)⟩,
           ⟨some 93, .bin .geq .int (.tmp 90) (.tmp 92), some (85, true)⟩,
           ⟨some 94, .pick (.tmp 85) (.tmp 93) (.const (.bool false)), none⟩,
           ⟨some 8, .mov (.tmp 94), none⟩])
         (.ret)))))))))
theorem fn11 : Fun Try.prog 11 95 ac11 [.tmp 8] := ⟨mixedR, Try.f11, _, Try.func11, rfl, by decide +kernel, rfl, by kernel_rfl, by kernel_rfl⟩
/- glossator/glossatorkeep2.RemovingRedundantRows -/
def ac12_l0 : AC := .seq
 (.reg [⟨some 37, .bin .lss .int (.tmp 36) (.tmp 35), none⟩])
 (.seq
  (.cond (.tmp 37)
   (.skip)
   (.exit 0))
  (.seq
   (.block 1
    (.seq
     (.reg [⟨some 38, .mov (.tmp 36), none⟩,
       ⟨some 39, .iaddr 1 (.tmp 34) (.tmp 36), none⟩,
       ⟨some 40, .load false 1 (.tmp 39), none⟩,
       ⟨some 9, .mov (.tmp 38), none⟩,
       ⟨some 10, .mov (.tmp 40), none⟩])
     (.seq
      (.reg [⟨some 41, .mov (.tmp 7), none⟩,
        ⟨some 42, .mov (.tmp 9), none⟩,
        ⟨some 43, .call (.func 54) [(.tmp 41), (.tmp 42)], none⟩,
        ⟨some 44, .un .not (.tmp 43), none⟩])
      (.cond (.tmp 44)
       (.reg [⟨some 45, .mov (.tmp 8), none⟩,
         ⟨some 46, .mov (.tmp 10), none⟩,
         ⟨some 47, .bslice 64 1 [(.slice none 0 0)] 1 [(0, (.tmp 46))], none⟩,
         ⟨some 48, .app 64 1 (.tmp 45) (.tmp 47), none⟩,
         ⟨some 8, .mov (.tmp 48), none⟩])
       (.skip)))))
   (.reg [⟨some 49, .bin .add .int (.tmp 36) (.const (.int .i64 1)), none⟩,
     ⟨some 36, .mov (.tmp 49), none⟩])))
def ac12 : AC := .seq
 (.reg [⟨some 6, .mov (.const (.bool false)), none⟩])
 (.seq
  (.seq
   (.reg [⟨some 15, .call (.func 52) [], none⟩,
     ⟨some 16, .un .not (.tmp 15), none⟩])
   (.cond (.tmp 16)
    (.seq
     (.reg [⟨some 6, .mov (.const (.bool false)), none⟩])
     (.ret))
    (.skip)))
  (.seq
   (.reg [⟨some 17, .mov (.tmp 0), none⟩,
     ⟨some 18, .mov (.tmp 1), none⟩,
     ⟨some 19, .mov (.tmp 2), none⟩,
     ⟨some 20, .call (.func 43) [(.tmp 17), (.tmp 18), (.tmp 19)], none⟩,
     ⟨some 7, .mov (.tmp 20), none⟩])
   (.seq
    (.seq
     (.reg [⟨some 21, .call (.func 52) [], none⟩,
       ⟨some 22, .un .not (.tmp 21), none⟩,
       ⟨some 23, .mov (.tmp 22), none⟩,
       ⟨some 24, .mov (.tmp 7), some (23, false)⟩,
       ⟨some 25, .slen false (.tmp 24), some (23, false)⟩,
       ⟨some 26, .bin .eql .int (.tmp 25) (.const (.int .i64 0)), some (23, false)⟩,
       ⟨some 27, .pick (.tmp 23) (.const (.bool true)) (.tmp 26), none⟩,
       ⟨some 28, .mov (.tmp 27), none⟩,
       ⟨some 29, .mov (.tmp 0), some (28, false)⟩,
       ⟨some 30, .call (.func 45) [(.tmp 29)], some (28, false)⟩,
       ⟨some 31, .un .not (.tmp 30), some (28, false)⟩,
       ⟨some 32, .pick (.tmp 28) (.const (.bool true)) (.tmp 31), none⟩])
     (.cond (.tmp 32)
      (.seq
       (.reg [⟨some 33, .call (.func 52) [], none⟩,
         ⟨some 6, .mov (.tmp 33), none⟩])
       (.ret))
      (.skip)))
    (.seq
     (.reg [⟨some 8, .mov (.const (.slice none 0 0)), none⟩])
     (.seq
      (.seq
       (.reg [⟨some 34, .mov (.tmp 2), none⟩,
         ⟨some 35, .slen false (.tmp 34), none⟩,
         ⟨some 36, .mov (.const (.int .i64 0)), none⟩])
       (.block 0
        (.loop ac12_l0)))
      (.seq
       (.reg [⟨some 51, .mov (.tmp 0), none⟩,
         ⟨some 52, .mov (.tmp 1), none⟩,
         ⟨some 53, .mov (.tmp 2), none⟩,
         ⟨some 54, .call (.func 42) [(.tmp 51), (.tmp 52), (.tmp 53)], none⟩,
         ⟨some 50, .mov (.tmp 54), none⟩,
         ⟨some 55, .ext (.tmp 50) 0, none⟩,
         ⟨some 56, .ext (.tmp 50) 1, none⟩,
         ⟨some 11, .mov (.tmp 55), none⟩,
         ⟨some 12, .mov (.tmp 56), none⟩])
       (.seq
        (.reg [⟨some 58, .mov (.tmp 0), none⟩,
          ⟨some 59, .mov (.tmp 1), none⟩,
          ⟨some 60, .mov (.tmp 8), none⟩,
          ⟨some 61, .call (.func 42) [(.tmp 58), (.tmp 59), (.tmp 60)], none⟩,
          ⟨some 57, .mov (.tmp 61), none⟩,
          ⟨some 62, .ext (.tmp 57) 0, none⟩,
          ⟨some 63, .ext (.tmp 57) 1, none⟩,
          ⟨some 13, .mov (.tmp 62), none⟩,
          ⟨some 14, .mov (.tmp 63), none⟩])
        (.seq
         (.reg [⟨some 64, .mov (.tmp 12), none⟩,
           ⟨some 65, .mov (.tmp 14), none⟩,
           ⟨some 66, .bin .eql .bool (.tmp 64) (.tmp 65), none⟩,
           ⟨some 67, .mov (.tmp 66), none⟩,
           ⟨some 68, .mov (.tmp 0), some (67, true)⟩,
           ⟨some 69, .mov (.tmp 1), some (67, true)⟩,
           ⟨some 70, .mov (.tmp 8), some (67, true)⟩,
           ⟨some 71, .call (.func 43) [(.tmp 68), (.tmp 69), (.tmp 70)], some (67, true)⟩,
           ⟨some 72, .slen false (.tmp 71), some (67, true)⟩,
           ⟨some 73, .bin .eql .int (.tmp 72) (.const (.int .i64 0)), some (67, true)⟩,
           ⟨some 74, .pick (.tmp 67) (.tmp 73) (.const (.bool false)), none⟩,
           ⟨some 6, .mov (.tmp 74), none⟩])
         (.ret)))))))))
theorem fn12 : Fun Try.prog 12 75 ac12 [.tmp 6] := ⟨mixedR, Try.f12, _, Try.func12, rfl, by decide +kernel, rfl, by kernel_rfl, by kernel_rfl⟩
/- glossator/glossatorkeep2.ExhaustivenessIgnoresRowOrder -/
def ac13 : AC := .seq
 (.reg [⟨some 6, .mov (.const (.bool false)), none⟩])
 (.seq
  (.seq
   (.reg [⟨some 12, .call (.func 52) [], none⟩,
     ⟨some 13, .un .not (.tmp 12), none⟩])
   (.cond (.tmp 13)
    (.seq
     (.reg [⟨some 6, .mov (.const (.bool false)), none⟩])
     (.ret))
    (.skip)))
  (.seq
   (.reg [⟨some 14, .mov (.tmp 2), none⟩,
     ⟨some 15, .call (.func 53) [(.tmp 14)], none⟩,
     ⟨some 7, .mov (.tmp 15), none⟩])
   (.seq
    (.reg [⟨some 16, .mov (.tmp 7), none⟩,
      ⟨some 17, .call (.func 55) [(.tmp 16)], none⟩])
    (.seq
     (.reg [⟨some 19, .mov (.tmp 0), none⟩,
       ⟨some 20, .mov (.tmp 1), none⟩,
       ⟨some 21, .mov (.tmp 2), none⟩,
       ⟨some 22, .call (.func 42) [(.tmp 19), (.tmp 20), (.tmp 21)], none⟩,
       ⟨some 18, .mov (.tmp 22), none⟩,
       ⟨some 23, .ext (.tmp 18) 0, none⟩,
       ⟨some 24, .ext (.tmp 18) 1, none⟩,
       ⟨some 8, .mov (.tmp 23), none⟩,
       ⟨some 9, .mov (.tmp 24), none⟩])
     (.seq
      (.reg [⟨some 26, .mov (.tmp 0), none⟩,
        ⟨some 27, .mov (.tmp 1), none⟩,
        ⟨some 28, .mov (.tmp 7), none⟩,
        ⟨some 29, .call (.func 42) [(.tmp 26), (.tmp 27), (.tmp 28)], none⟩,
        ⟨some 25, .mov (.tmp 29), none⟩,
        ⟨some 30, .ext (.tmp 25) 0, none⟩,
        ⟨some 31, .ext (.tmp 25) 1, none⟩,
        ⟨some 10, .mov (.tmp 30), none⟩,
        ⟨some 11, .mov (.tmp 31), none⟩])
      (.seq
       (.seq
        (.reg [⟨some 32, .call (.func 52) [], none⟩,
          ⟨some 33, .un .not (.tmp 32), none⟩,
          ⟨some 34, .mov (.tmp 33), none⟩,
          ⟨some 35, .mov (.tmp 0), some (34, false)⟩,
          ⟨some 36, .mov (.tmp 1), some (34, false)⟩,
          ⟨some 37, .mov (.tmp 2), some (34, false)⟩,
          ⟨some 38, .call (.func 41) [(.tmp 35), (.tmp 36), (.tmp 37)], some (34, false)⟩,
          ⟨some 39, .bin .neq .int (.tmp 38) (.const (.int .i64 0)), some (34, false)⟩,
          ⟨some 40, .pick (.tmp 34) (.const (.bool true)) (.tmp 39), none⟩])
        (.cond (.tmp 40)
         (.seq
          (.reg [⟨some 41, .call (.func 52) [], none⟩,
            ⟨some 42, .mov (.tmp 41), none⟩,
            ⟨some 43, .mov (.tmp 9), some (42, true)⟩,
            ⟨some 44, .mov (.tmp 11), some (42, true)⟩,
            ⟨some 45, .bin .eql .bool (.tmp 43) (.tmp 44), some (42, true)⟩,
            ⟨some 46, .pick (.tmp 42) (.tmp 45) (.const (.bool false)), none⟩,
            ⟨some 6, .mov (.tmp 46), none⟩])
          (.ret))
         (.skip)))
       (.seq
        (.reg [⟨some 47, .mov (.tmp 9), none⟩,
          ⟨some 48, .mov (.tmp 11), none⟩,
          ⟨some 49, .bin .eql .bool (.tmp 47) (.tmp 48), none⟩,
          ⟨some 50, .mov (.tmp 49), none⟩,
          ⟨some 51, .mov (.tmp 0), some (50, false)⟩,
          ⟨some 52, .call (.func 45) [(.tmp 51)], some (50, false)⟩,
          ⟨some 53, .un .not (.tmp 52), some (50, false)⟩,
          ⟨some 54, .pick (.tmp 50) (.const (.bool true)) (.tmp 53), none⟩,
          ⟨some 6, .mov (.tmp 54), none⟩])
        (.ret))))))))
theorem fn13 : Fun Try.prog 13 55 ac13 [.tmp 6] := ⟨mixedR, Try.f13, _, Try.func13, rfl, by decide +kernel, rfl, by kernel_rfl, by kernel_rfl⟩
/- glossator/glossatorkeep2.MissingRowIsUnmatched -/
def ac14 : AC := .seq
 (.reg [⟨some 7, .box 64 1 (.tmp 3), none⟩,
   ⟨some 8, .mov (.const (.bool false)), none⟩])
 (.seq
  (.seq
   (.reg [⟨some 11, .call (.func 52) [], none⟩,
     ⟨some 12, .un .not (.tmp 11), none⟩])
   (.cond (.tmp 12)
    (.seq
     (.reg [⟨some 8, .mov (.const (.bool false)), none⟩])
     (.ret))
    (.skip)))
  (.seq
   (.reg [⟨some 14, .mov (.tmp 0), none⟩,
     ⟨some 15, .mov (.tmp 1), none⟩,
     ⟨some 16, .mov (.tmp 2), none⟩,
     ⟨some 17, .call (.func 42) [(.tmp 14), (.tmp 15), (.tmp 16)], none⟩,
     ⟨some 13, .mov (.tmp 17), none⟩,
     ⟨some 18, .ext (.tmp 13) 0, none⟩,
     ⟨some 19, .ext (.tmp 13) 1, none⟩,
     ⟨some 9, .mov (.tmp 18), none⟩,
     ⟨some 10, .mov (.tmp 19), none⟩])
   (.seq
    (.seq
     (.reg [⟨some 20, .call (.func 52) [], none⟩,
       ⟨some 21, .un .not (.tmp 20), none⟩,
       ⟨some 22, .mov (.tmp 21), none⟩,
       ⟨some 23, .mov (.tmp 10), some (22, false)⟩,
       ⟨some 24, .un .not (.tmp 23), some (22, false)⟩,
       ⟨some 25, .pick (.tmp 22) (.const (.bool true)) (.tmp 24), none⟩])
     (.cond (.tmp 25)
      (.seq
       (.reg [⟨some 26, .call (.func 52) [], none⟩,
         ⟨some 27, .mov (.tmp 26), none⟩,
         ⟨some 28, .mov (.tmp 9), some (27, true)⟩,
         ⟨some 29, .slen false (.tmp 28), some (27, true)⟩,
         ⟨some 30, .bin .eql .int (.tmp 29) (.const (.int .i64 0)), some (27, true)⟩,
         ⟨some 31, .pick (.tmp 27) (.tmp 30) (.const (.bool false)), none⟩,
         ⟨some 8, .mov (.tmp 31), none⟩])
       (.ret))
      (.skip)))
    (.seq
     (.seq
      (.reg [⟨some 32, .mov (.tmp 0), none⟩,
        ⟨some 33, .call (.func 45) [(.tmp 32)], none⟩,
        ⟨some 34, .un .not (.tmp 33), none⟩])
      (.cond (.tmp 34)
       (.seq
        (.reg [⟨some 8, .mov (.const (.bool true)), none⟩])
        (.ret))
       (.skip)))
     (.seq
      (.reg [⟨some 35, .mov (.tmp 9), none⟩,
        ⟨some 36, .slen false (.tmp 35), none⟩,
        ⟨some 37, .mov (.tmp 1), none⟩,
        ⟨some 38, .slen false (.tmp 37), none⟩,
        ⟨some 39, .bin .eql .int (.tmp 36) (.tmp 38), none⟩,
        ⟨some 40, .mov (.tmp 39), none⟩,
        ⟨some 41, .mov (.tmp 9), some (40, true)⟩,
        ⟨some 42, .load false 1 (.tmp 7), some (40, true)⟩,
        ⟨some 43, .call (.func 56) [(.tmp 41), (.tmp 42)], some (40, true)⟩,
        ⟨some 44, .un .not (.tmp 43), some (40, true)⟩,
        ⟨some 45, .mov (.tmp 44), some (40, true)⟩,
        ⟨some 46, .mov (.tmp 2), some (45, false)⟩,
        ⟨some 47, .mkfn 57 [(.tmp 7)], some (45, false)⟩,
        ⟨some 48, .call (.func 48) [(.tmp 46), (.tmp 47)], some (45, false)⟩,
        ⟨some 49, .un .not (.tmp 48), some (45, false)⟩,
        ⟨some 50, .pick (.tmp 45) (.const (.bool true)) (.tmp 49), some (40, true)⟩,
        ⟨some 51, .pick (.tmp 40) (.tmp 50) (.const (.bool false)), none⟩,
        ⟨some 8, .mov (.tmp 51), none⟩])
      (.ret))))))
theorem fn14 : Fun Try.prog 14 52 ac14 [.tmp 8] := ⟨mixedR, Try.f14, _, Try.func14, rfl, by decide +kernel, rfl, by kernel_rfl, by kernel_rfl⟩
/- glossator/glossatorlaw2.MatchesAgreesWithReference -/
def ac15 : AC := .seq
 (.reg [⟨some 4, .mov (.const (.bool false)), none⟩])
 (.seq
  (.seq
   (.reg [⟨some 5, .call (.func 40) [], none⟩,
     ⟨some 6, .un .not (.tmp 5), none⟩])
   (.cond (.tmp 6)
    (.seq
     (.reg [⟨some 4, .mov (.const (.bool false)), none⟩])
     (.ret))
    (.skip)))
  (.seq
   (.reg [⟨some 7, .mov (.tmp 0), none⟩,
     ⟨some 8, .mov (.tmp 1), none⟩,
     ⟨some 9, .call (.func 56) [(.tmp 7), (.tmp 8)], none⟩,
     ⟨some 10, .mov (.tmp 0), none⟩,
     ⟨some 11, .mov (.tmp 1), none⟩,
     ⟨some 12, .call (.func 58) [(.tmp 10), (.tmp 11)], none⟩,
     ⟨some 13, .bin .eql .bool (.tmp 9) (.tmp 12), none⟩,
     ⟨some 4, .mov (.tmp 13), none⟩])
   (.ret)))
theorem fn15 : Fun Try.prog 15 14 ac15 [.tmp 4] := ⟨mixedR, Try.f15, _, Try.func15, rfl, by decide +kernel, rfl, by kernel_rfl, by kernel_rfl⟩
/- glossator/glossatorlaw2.exhaustiveWorks -/
def ac40 : AC := .seq
 (.reg [⟨some 0, .mov (.const (.bool false)), none⟩])
 (.seq
  (.reg [⟨some 7, .call (.func 97) [(.const (.int .i64 1)), (.const (.int .i64 5)), (.const (.slice none 0 0))], none⟩,
    ⟨some 8, .bslice 127 3 [(.int .i64 0), (.int .i64 0), (.slice none 0 0)] 1 [(0, (.tmp 7))], none⟩,
    ⟨some 9, .call (.func 97) [(.const (.int .i64 3)), (.const (.int .i64 1)), (.const (.slice none 0 0))], none⟩,
    ⟨some 10, .build [(.int .i64 0), (.int .i64 0), (.slice none 0 0)] [(0, 1), (1, 1), (2, 1)] [], none⟩,
    ⟨some 11, .bslice 127 3 [(.int .i64 0), (.int .i64 0), (.slice none 0 0)] 2 [(0, (.tmp 9)), (1, (.tmp 10))], none⟩,
    ⟨some 12, .call (.func 97) [(.const (.int .i64 1)), (.const (.int .i64 6)), (.tmp 11)], none⟩,
    ⟨some 13, .bslice 127 3 [(.int .i64 0), (.int .i64 0), (.slice none 0 0)] 1 [(0, (.tmp 12))], none⟩,
    ⟨some 14, .bslice 64 1 [(.slice none 0 0)] 2 [(0, (.tmp 8)), (1, (.tmp 13))], none⟩,
    ⟨some 1, .mov (.tmp 14), none⟩])
  (.seq
   (.reg [⟨some 16, .call (.func 98) [], none⟩,
     ⟨some 17, .bslice 3 1 [(.int .i64 0)] 1 [(0, (.const (.int .i64 0)))], none⟩,
     ⟨some 18, .mov (.tmp 1), none⟩,
     ⟨some 19, .call (.func 42) [(.tmp 16), (.tmp 17), (.tmp 18)], none⟩,
     ⟨some 15, .mov (.tmp 19), none⟩,
     ⟨some 20, .ext (.tmp 15) 0, none⟩,
     ⟨some 21, .ext (.tmp 15) 1, none⟩,
     ⟨some 2, .mov (.tmp 20), none⟩,
     ⟨some 3, .mov (.tmp 21), none⟩])
   (.seq
    (.reg [⟨some 22, .mov (.tmp 1), none⟩,
      ⟨some 23, .build [(.int .i64 0), (.int .i64 0), (.slice none 0 0)] [(0, 1), (1, 1), (2, 1)] [], none⟩,
      ⟨some 24, .bslice 127 3 [(.int .i64 0), (.int .i64 0), (.slice none 0 0)] 1 [(0, (.tmp 23))], none⟩,
      ⟨some 25, .call (.func 97) [(.const (.int .i64 1)), (.const (.int .i64 5)), (.const (.slice none 0 0))], none⟩,
      ⟨some 26, .bslice 127 3 [(.int .i64 0), (.int .i64 0), (.slice none 0 0)] 1 [(0, (.tmp 25))], none⟩,
      ⟨some 27, .bslice 64 1 [(.slice none 0 0)] 2 [(0, (.tmp 24)), (1, (.tmp 26))], none⟩,
      ⟨some 28, .app 64 1 (.tmp 22) (.tmp 27), none⟩,
      ⟨some 4, .mov (.tmp 28), none⟩])
    (.seq
     (.reg [⟨some 30, .call (.func 98) [], none⟩,
       ⟨some 31, .bslice 3 1 [(.int .i64 0)] 1 [(0, (.const (.int .i64 0)))], none⟩,
       ⟨some 32, .mov (.tmp 4), none⟩,
       ⟨some 33, .call (.func 42) [(.tmp 30), (.tmp 31), (.tmp 32)], none⟩,
       ⟨some 29, .mov (.tmp 33), none⟩,
       ⟨some 34, .ext (.tmp 29) 0, none⟩,
       ⟨some 35, .ext (.tmp 29) 1, none⟩,
       ⟨some 5, .mov (.tmp 34), none⟩,
       ⟨some 6, .mov (.tmp 35), none⟩])
     (.seq
      (.reg [⟨some 36, .mov (.tmp 3), none⟩,
        ⟨some 37, .mov (.tmp 36), none⟩,
        ⟨some 38, .mov (.tmp 6), some (37, true)⟩,
        ⟨some 39, .un .not (.tmp 38), some (37, true)⟩,
        ⟨some 40, .pick (.tmp 37) (.tmp 39) (.const (.bool false)), none⟩,
        ⟨some 41, .mov (.tmp 40), none⟩,
        ⟨some 42, .mov (.tmp 2), some (41, true)⟩,
        ⟨some 43, .slen false (.tmp 42), some (41, true)⟩,
        ⟨some 44, .bin .eql .int (.tmp 43) (.const (.int .i64 1)), some (41, true)⟩,
        ⟨some 45, .pick (.tmp 41) (.tmp 44) (.const (.bool false)), none⟩,
        ⟨some 46, .mov (.tmp 45), none⟩,
        ⟨some 47, .mov (.tmp 2), some (46, true)⟩,
        ⟨some 48, .iaddr 3 (.tmp 47) (.const (.int .i64 0)), some (46, true)⟩,
        ⟨some 49, .faddr 1 (.tmp 48), some (46, true)⟩,
        ⟨some 50, .load false 1 (.tmp 49), some (46, true)⟩,
        ⟨some 51, .bin .eql .int (.tmp 50) (.const (.int .i64 6)), some (46, true)⟩,
        ⟨some 52, .pick (.tmp 46) (.tmp 51) (.const (.bool false)), none⟩,
        ⟨some 53, .mov (.tmp 52), none⟩,
        ⟨some 54, .mov (.tmp 2), some (53, true)⟩,
        ⟨some 55, .iaddr 3 (.tmp 54) (.const (.int .i64 0)), some (53, true)⟩,
        ⟨some 56, .faddr 2 (.tmp 55), some (53, true)⟩,
        ⟨some 57, .load false 1 (.tmp 56), some (53, true)⟩,
        ⟨some 58, .slen false (.tmp 57), some (53, true)⟩,
        ⟨some 59, .bin .eql .int (.tmp 58) (.const (.int .i64 2)), some (53, true)⟩,
        ⟨some 60, .pick (.tmp 53) (.tmp 59) (.const (.bool false)), none⟩,
        ⟨some 61, .mov (.tmp 60), none⟩,
        ⟨some 62, .mov (.tmp 2), some (61, true)⟩,
        ⟨some 63, .iaddr 3 (.tmp 62) (.const (.int .i64 0)), some (61, true)⟩,
        ⟨some 64, .faddr 2 (.tmp 63), some (61, true)⟩,
        ⟨some 65, .load false 1 (.tmp 64), some (61, true)⟩,
        ⟨some 66, .iaddr 3 (.tmp 65) (.const (.int .i64 0)), some (61, true)⟩,
        ⟨some 67, .faddr 0 (.tmp 66), some (61, true)⟩,
        ⟨some 68, .load false 1 (.tmp 67), some (61, true)⟩,
        ⟨some 69, .bin .eql .int (.tmp 68) (.const (.int .i64 3)), some (61, true)⟩,
        ⟨some 70, .pick (.tmp 61) (.tmp 69) (.const (.bool false)), none⟩,
        ⟨some 71, .mov (.tmp 70), none⟩,
        ⟨some 72, .mov (.tmp 2), some (71, true)⟩,
        ⟨some 73, .iaddr 3 (.tmp 72) (.const (.int .i64 0)), some (71, true)⟩,
        ⟨some 74, .faddr 2 (.tmp 73), some (71, true)⟩,
        ⟨some 75, .load false 1 (.tmp 74), some (71, true)⟩,
        ⟨some 76, .iaddr 3 (.tmp 75) (.const (.int .i64 0)), some (71, true)⟩,
        ⟨some 77, .faddr 1 (.tmp 76), some (71, true)⟩,
        ⟨some 78, .load false 1 (.tmp 77), some (71, true)⟩,
        ⟨some 79, .bin .eql .int (.tmp 78) (.const (.int .i64 0)), some (71, true)⟩,
        ⟨some 80, .pick (.tmp 71) (.tmp 79) (.const (.bool false)), none⟩,
        ⟨some 81, .mov (.tmp 80), none⟩,
        ⟨some 82, .call (.func 98) [], some (81, true)⟩,
        ⟨some 83, .bslice 3 1 [(.int .i64 0)] 1 [(0, (.const (.int .i64 0)))], some (81, true)⟩,
        ⟨some 84, .mov (.tmp 4), some (81, true)⟩,
        ⟨some 85, .call (.func 43) [(.tmp 82), (.tmp 83), (.tmp 84)], some (81, true)⟩,
        ⟨some 86, .bslice 3 1 [(.int .i64 0)] 1 [(0, (.const (.int .i64 3)))], some (81, true)⟩,
        ⟨some 87, .call (.func 51) [(.tmp 85), (.tmp 86)], some (81, true)⟩,
        ⟨some 88, .pick (.tmp 81) (.tmp 87) (.const (.bool false)), none⟩,
        ⟨some 0, .mov (.tmp 88), none⟩])
      (.ret))))))
theorem fn40 : Fun Try.prog 40 89 ac40 [.tmp 0] := ⟨mixedR, Try.f40, _, Try.func40, rfl, by decide +kernel, rfl, by kernel_rfl, by kernel_rfl⟩
/- glossator/exhaustive.Validate -/
def ac41_l0 : AC := .seq
 (.reg [⟨some 31, .bin .lss .int (.tmp 30) (.tmp 29), none⟩])
 (.seq
  (.cond (.tmp 31)
   (.skip)
   (.exit 0))
  (.seq
   (.block 1
    (.seq
     (.reg [⟨some 32, .iaddr 2 (.tmp 28) (.tmp 30), none⟩,
       ⟨some 33, .load true 2 (.tmp 32), none⟩,
       ⟨some 9, .alloc 132 2 [(.int .i64 0), (.slice none 0 0)], none⟩,
       ⟨none, .store 2 (.tmp 9) (.tmp 33), none⟩])
     (.reg [⟨some 34, .mov (.tmp 7), none⟩,
       ⟨some 35, .mov (.tmp 34), none⟩,
       ⟨some 36, .faddr 1 (.tmp 9), some (35, false)⟩,
       ⟨some 37, .load false 1 (.tmp 36), some (35, false)⟩,
       ⟨some 38, .slen false (.tmp 37), some (35, false)⟩,
       ⟨some 39, .bin .gtr .int (.tmp 38) (.const (.int .i64 8)), some (35, false)⟩,
       ⟨some 40, .pick (.tmp 35) (.const (.bool true)) (.tmp 39), none⟩,
       ⟨some 41, .mov (.tmp 40), none⟩,
       ⟨some 42, .faddr 1 (.tmp 9), some (41, false)⟩,
       ⟨some 43, .load false 1 (.tmp 42), some (41, false)⟩,
       ⟨some 44, .call (.func 99) [(.tmp 43), (.func 100)], some (41, false)⟩,
       ⟨some 45, .pick (.tmp 41) (.const (.bool true)) (.tmp 44), none⟩,
       ⟨some 7, .mov (.tmp 45), none⟩])))
   (.reg [⟨some 46, .bin .add .int (.tmp 30) (.const (.int .i64 1)), none⟩,
     ⟨some 30, .mov (.tmp 46), none⟩])))
def ac41_l1 : AC := .seq
 (.reg [⟨some 78, .bin .lss .int (.tmp 77) (.tmp 76), none⟩])
 (.seq
  (.cond (.tmp 78)
   (.skip)
   (.exit 4))
  (.seq
   (.block 5
    (.seq
     (.reg [⟨some 79, .mov (.tmp 77), none⟩,
       ⟨some 80, .iaddr 3 (.tmp 75) (.tmp 77), none⟩,
       ⟨some 81, .load true 3 (.tmp 80), none⟩,
       ⟨some 14, .alloc 127 3 [(.int .i64 0), (.int .i64 0), (.slice none 0 0)], none⟩,
       ⟨some 13, .mov (.tmp 79), none⟩,
       ⟨none, .store 3 (.tmp 14) (.tmp 81), none⟩])
     (.seq
      (.dreg [⟨some 82, .load true 1 (.tmp 10), none⟩,
        ⟨some 83, .load true 3 (.tmp 14), none⟩,
        ⟨some 84, .mov (.tmp 1), none⟩,
        ⟨some 85, .mov (.tmp 13), none⟩,
        ⟨some 86, .iaddr 1 (.tmp 84) (.tmp 85), none⟩,
        ⟨some 87, .load false 1 (.tmp 86), none⟩,
        ⟨some 88, .call (.func 108) [(.tmp 82), (.tmp 83), (.tmp 87)], none⟩,
        ⟨some 89, .un .not (.tmp 88), none⟩]
        [[], [], [], [], [2, 3], [4], [0, 1, 5], [6]]
        [[10], [14], [1], [13], [84, 85], [86], [82, 83, 87], [88]])
      (.cond (.tmp 89)
       (.seq
        (.reg [⟨some 6, .mov (.const (.int .i64 3)), none⟩])
        (.ret))
       (.skip)))))
   (.reg [⟨some 90, .bin .add .int (.tmp 77) (.const (.int .i64 1)), none⟩,
     ⟨some 77, .mov (.tmp 90), none⟩])))
def ac41_l2 : AC := .seq
 (.reg [⟨some 61, .bin .lss .int (.tmp 60) (.tmp 59), none⟩])
 (.seq
  (.cond (.tmp 61)
   (.skip)
   (.exit 2))
  (.seq
   (.block 3
    (.seq
     (.reg [⟨some 62, .iaddr 1 (.tmp 58) (.tmp 60), none⟩,
       ⟨some 63, .load false 1 (.tmp 62), none⟩,
       ⟨some 12, .mov (.tmp 63), none⟩])
     (.seq
      (.seq
       (.reg [⟨some 64, .mov (.tmp 12), none⟩,
         ⟨some 65, .slen false (.tmp 64), none⟩,
         ⟨some 66, .mov (.tmp 1), none⟩,
         ⟨some 67, .slen false (.tmp 66), none⟩,
         ⟨some 68, .bin .neq .int (.tmp 65) (.tmp 67), none⟩,
         ⟨some 69, .mov (.tmp 68), none⟩,
         ⟨some 70, .mov (.tmp 12), some (69, false)⟩,
         ⟨some 71, .build [(.int .i64 0), (.int .i64 0), (.slice none 0 0)] [(0, 1), (1, 1), (2, 1)] [(2, (.tmp 70))], some (69, false)⟩,
         ⟨some 72, .call (.func 107) [(.tmp 71)], some (69, false)⟩,
         ⟨some 73, .bin .gtr .int (.tmp 72) (.const (.int .i64 21)), some (69, false)⟩,
         ⟨some 74, .pick (.tmp 69) (.const (.bool true)) (.tmp 73), none⟩])
       (.cond (.tmp 74)
        (.seq
         (.reg [⟨some 6, .mov (.const (.int .i64 3)), none⟩])
         (.ret))
        (.skip)))
      (.seq
       (.reg [⟨some 75, .mov (.tmp 12), none⟩,
         ⟨some 76, .slen false (.tmp 75), none⟩,
         ⟨some 77, .mov (.const (.int .i64 0)), none⟩])
       (.block 4
        (.loop ac41_l1))))))
   (.reg [⟨some 91, .bin .add .int (.tmp 60) (.const (.int .i64 1)), none⟩,
     ⟨some 60, .mov (.tmp 91), none⟩])))
def ac41 : AC := .seq
 (.reg [⟨some 6, .mov (.const (.int .i64 0)), none⟩])
 (.seq
  (.reg [⟨some 15, .mov (.tmp 0), none⟩,
    ⟨some 16, .slen false (.tmp 15), none⟩,
    ⟨some 17, .bin .gtr .int (.tmp 16) (.const (.int .i64 20)), none⟩,
    ⟨some 18, .mov (.tmp 17), none⟩,
    ⟨some 19, .mov (.tmp 1), some (18, false)⟩,
    ⟨some 20, .slen false (.tmp 19), some (18, false)⟩,
    ⟨some 21, .bin .gtr .int (.tmp 20) (.const (.int .i64 6)), some (18, false)⟩,
    ⟨some 22, .pick (.tmp 18) (.const (.bool true)) (.tmp 21), none⟩,
    ⟨some 23, .mov (.tmp 22), none⟩,
    ⟨some 24, .mov (.tmp 2), some (23, false)⟩,
    ⟨some 25, .slen false (.tmp 24), some (23, false)⟩,
    ⟨some 26, .bin .gtr .int (.tmp 25) (.const (.int .i64 12)), some (23, false)⟩,
    ⟨some 27, .pick (.tmp 23) (.const (.bool true)) (.tmp 26), none⟩,
    ⟨some 7, .mov (.tmp 27), none⟩])
  (.seq
   (.seq
    (.reg [⟨some 28, .mov (.tmp 0), none⟩,
      ⟨some 29, .slen false (.tmp 28), none⟩,
      ⟨some 30, .mov (.const (.int .i64 0)), none⟩])
    (.block 0
     (.loop ac41_l0)))
   (.seq
    (.seq
     (.reg [⟨some 47, .mov (.tmp 7), none⟩])
     (.cond (.tmp 47)
      (.seq
       (.reg [⟨some 6, .mov (.const (.int .i64 2)), none⟩])
       (.ret))
      (.skip)))
    (.seq
     (.reg [⟨some 48, .mov (.tmp 0), none⟩,
       ⟨some 49, .build [(.slice none 0 0)] [(0, 1)] [(0, (.tmp 48))], none⟩,
       ⟨some 10, .alloc 138 1 [(.slice none 0 0)], none⟩,
       ⟨none, .store 1 (.tmp 10) (.tmp 49), none⟩])
     (.seq
      (.seq
       (.reg [⟨some 50, .mov (.tmp 0), none⟩,
         ⟨some 51, .mkfn 102 [(.tmp 10)], none⟩,
         ⟨some 52, .call (.func 101) [(.tmp 50), (.tmp 51)], none⟩,
         ⟨some 53, .mov (.tmp 52), none⟩,
         ⟨some 54, .mov (.tmp 1), some (53, false)⟩,
         ⟨some 55, .mkfn 105 [(.tmp 10)], some (53, false)⟩,
         ⟨some 56, .call (.func 104) [(.tmp 54), (.tmp 55)], some (53, false)⟩,
         ⟨some 57, .pick (.tmp 53) (.const (.bool true)) (.tmp 56), none⟩])
       (.cond (.tmp 57)
        (.seq
         (.reg [⟨some 6, .mov (.const (.int .i64 3)), none⟩])
         (.ret))
        (.skip)))
      (.seq
       (.seq
        (.reg [⟨some 58, .mov (.tmp 2), none⟩,
          ⟨some 59, .slen false (.tmp 58), none⟩,
          ⟨some 60, .mov (.const (.int .i64 0)), none⟩])
        (.block 2
         (.loop ac41_l2)))
       (.seq
        (.reg [⟨some 6, .mov (.const (.int .i64 0)), none⟩])
        (.ret))))))))
theorem fn41 : Fun Try.prog 41 92 ac41 [.tmp 6] := ⟨mixedR, Try.f41, _, Try.func41, rfl, by decide +kernel, rfl, by kernel_rfl, by kernel_rfl⟩
/- glossator/exhaustive.Missing -/
def ac42 : AC := .seq
 (.reg [⟨some 6, .mov (.const (.slice none 0 0)), none⟩,
   ⟨some 7, .mov (.const (.bool false)), none⟩])
 (.seq
  (.seq
   (.reg [⟨some 8, .mov (.tmp 0), none⟩,
     ⟨some 9, .mov (.tmp 1), none⟩,
     ⟨some 10, .mov (.tmp 2), none⟩,
     ⟨some 11, .call (.func 41) [(.tmp 8), (.tmp 9), (.tmp 10)], none⟩,
     ⟨some 12, .bin .neq .int (.tmp 11) (.const (.int .i64 0)), none⟩])
   (.cond (.tmp 12)
    (.seq
     (.reg [⟨some 6, .mov (.const (.slice none 0 0)), none⟩,
       ⟨some 7, .mov (.const (.bool false)), none⟩])
     (.ret))
    (.skip)))
  (.seq
   (.reg [⟨some 13, .mov (.tmp 0), none⟩,
     ⟨some 14, .build [(.slice none 0 0)] [(0, 1)] [(0, (.tmp 13))], none⟩,
     ⟨some 15, .mov (.tmp 1), none⟩,
     ⟨some 16, .mov (.tmp 2), none⟩,
     ⟨some 17, .call (.func 109) [(.tmp 14), (.tmp 15), (.tmp 16)], none⟩,
     ⟨some 18, .ext (.tmp 17) 0, none⟩,
     ⟨some 19, .ext (.tmp 17) 1, none⟩,
     ⟨some 6, .mov (.tmp 18), none⟩,
     ⟨some 7, .mov (.tmp 19), none⟩])
   (.ret)))
theorem fn42 : Fun Try.prog 42 20 ac42 [.tmp 6, .tmp 7] := ⟨mixedR, Try.f42, _, Try.func42, rfl, by decide +kernel, rfl, by kernel_rfl, by kernel_rfl⟩
/- glossator/exhaustive.Redundant -/
def ac43_l0 : AC := .seq
 (.reg [⟨some 21, .bin .lss .int (.tmp 20) (.tmp 19), none⟩])
 (.seq
  (.cond (.tmp 21)
   (.skip)
   (.exit 0))
  (.seq
   (.block 1
    (.seq
     (.reg [⟨some 22, .mov (.tmp 20), none⟩,
       ⟨some 23, .iaddr 1 (.tmp 18) (.tmp 20), none⟩,
       ⟨some 24, .load false 1 (.tmp 23), none⟩,
       ⟨some 9, .mov (.tmp 22), none⟩,
       ⟨some 10, .mov (.tmp 24), none⟩])
     (.seq
      (.dreg [⟨some 25, .load true 1 (.tmp 7), none⟩,
        ⟨some 26, .mov (.tmp 1), none⟩,
        ⟨some 27, .mov (.tmp 2), none⟩,
        ⟨some 28, .mov (.tmp 9), none⟩,
        ⟨some 29, .slice 1 (.tmp 27) none (some (.tmp 28)) none, none⟩,
        ⟨some 30, .mov (.tmp 10), none⟩,
        ⟨some 31, .call (.func 110) [(.tmp 25), (.tmp 26), (.tmp 29), (.tmp 30)], none⟩,
        ⟨some 32, .un .not (.tmp 31), none⟩]
        [[], [], [], [], [2, 3], [], [0, 1, 4, 5], [6]]
        [[7], [1], [2], [9], [27, 28], [10], [25, 26, 29, 30], [31]])
      (.cond (.tmp 32)
       (.reg [⟨some 33, .mov (.tmp 8), none⟩,
         ⟨some 34, .mov (.tmp 9), none⟩,
         ⟨some 35, .bslice 3 1 [(.int .i64 0)] 1 [(0, (.tmp 34))], none⟩,
         ⟨some 36, .app 3 1 (.tmp 33) (.tmp 35), none⟩,
         ⟨some 8, .mov (.tmp 36), none⟩])
       (.skip)))))
   (.reg [⟨some 37, .bin .add .int (.tmp 20) (.const (.int .i64 1)), none⟩,
     ⟨some 20, .mov (.tmp 37), none⟩])))
def ac43 : AC := .seq
 (.reg [⟨some 6, .mov (.const (.slice none 0 0)), none⟩])
 (.seq
  (.seq
   (.reg [⟨some 11, .mov (.tmp 0), none⟩,
     ⟨some 12, .mov (.tmp 1), none⟩,
     ⟨some 13, .mov (.tmp 2), none⟩,
     ⟨some 14, .call (.func 41) [(.tmp 11), (.tmp 12), (.tmp 13)], none⟩,
     ⟨some 15, .bin .neq .int (.tmp 14) (.const (.int .i64 0)), none⟩])
   (.cond (.tmp 15)
    (.seq
     (.reg [⟨some 6, .mov (.const (.slice none 0 0)), none⟩])
     (.ret))
    (.skip)))
  (.seq
   (.reg [⟨some 16, .mov (.tmp 0), none⟩,
     ⟨some 17, .build [(.slice none 0 0)] [(0, 1)] [(0, (.tmp 16))], none⟩,
     ⟨some 7, .alloc 138 1 [(.slice none 0 0)], none⟩,
     ⟨none, .store 1 (.tmp 7) (.tmp 17), none⟩])
   (.seq
    (.reg [⟨some 8, .mov (.const (.slice none 0 0)), none⟩])
    (.seq
     (.seq
      (.reg [⟨some 18, .mov (.tmp 2), none⟩,
        ⟨some 19, .slen false (.tmp 18), none⟩,
        ⟨some 20, .mov (.const (.int .i64 0)), none⟩])
      (.block 0
       (.loop ac43_l0)))
     (.seq
      (.reg [⟨some 38, .mov (.tmp 8), none⟩,
        ⟨some 6, .mov (.tmp 38), none⟩])
      (.ret))))))
theorem fn43 : Fun Try.prog 43 39 ac43 [.tmp 6] := ⟨mixedR, Try.f43, _, Try.func43, rfl, by decide +kernel, rfl, by kernel_rfl, by kernel_rfl⟩
/- glossator/glossatorref2.AllInhabited -/
def ac45_l0 : AC := .seq
 (.reg [⟨some 44, .bin .lss .int (.tmp 43) (.tmp 42), none⟩])
 (.seq
  (.cond (.tmp 44)
   (.skip)
   (.exit 6))
  (.seq
   (.block 7
    (.seq
     (.reg [⟨some 45, .iaddr 1 (.tmp 41) (.tmp 43), none⟩,
       ⟨some 46, .load false 1 (.tmp 45), none⟩,
       ⟨some 10, .mov (.tmp 46), none⟩])
     (.reg [⟨some 47, .mov (.tmp 8), none⟩,
       ⟨some 48, .mov (.tmp 47), none⟩,
       ⟨some 49, .mov (.tmp 3), some (48, true)⟩,
       ⟨some 50, .mov (.tmp 10), some (48, true)⟩,
       ⟨some 51, .iaddr 1 (.tmp 49) (.tmp 50), some (48, true)⟩,
       ⟨some 52, .load false 1 (.tmp 51), some (48, true)⟩,
       ⟨some 53, .pick (.tmp 48) (.tmp 52) (.const (.bool false)), none⟩,
       ⟨some 8, .mov (.tmp 53), none⟩])))
   (.reg [⟨some 54, .bin .add .int (.tmp 43) (.const (.int .i64 1)), none⟩,
     ⟨some 43, .mov (.tmp 54), none⟩])))
def ac45_l1 : AC := .seq
 (.reg [⟨some 37, .bin .lss .int (.tmp 36) (.tmp 35), none⟩])
 (.seq
  (.cond (.tmp 37)
   (.skip)
   (.exit 4))
  (.seq
   (.block 5
    (.seq
     (.reg [⟨some 38, .iaddr 2 (.tmp 34) (.tmp 36), none⟩,
       ⟨some 39, .load true 2 (.tmp 38), none⟩,
       ⟨some 7, .alloc 135 2 [(.int .i64 0), (.slice none 0 0)], none⟩,
       ⟨none, .store 2 (.tmp 7) (.tmp 39), none⟩])
     (.seq
      (.reg [⟨some 8, .mov (.const (.bool true)), none⟩])
      (.seq
       (.seq
        (.reg [⟨some 40, .faddr 1 (.tmp 7), none⟩,
          ⟨some 41, .load false 1 (.tmp 40), none⟩,
          ⟨some 42, .slen false (.tmp 41), none⟩,
          ⟨some 43, .mov (.const (.int .i64 0)), none⟩])
        (.block 6
         (.loop ac45_l0)))
       (.reg [⟨some 55, .mov (.tmp 3), none⟩,
         ⟨some 56, .mov (.tmp 4), none⟩,
         ⟨some 57, .mov (.tmp 3), none⟩,
         ⟨some 58, .mov (.tmp 4), none⟩,
         ⟨some 59, .iaddr 1 (.tmp 57) (.tmp 58), none⟩,
         ⟨some 60, .load false 1 (.tmp 59), none⟩,
         ⟨some 61, .mov (.tmp 60), none⟩,
         ⟨some 62, .mov (.tmp 8), some (61, false)⟩,
         ⟨some 63, .pick (.tmp 61) (.const (.bool true)) (.tmp 62), none⟩,
         ⟨some 64, .iaddr 1 (.tmp 55) (.tmp 56), none⟩,
         ⟨none, .store 1 (.tmp 64) (.tmp 63), none⟩])))))
   (.reg [⟨some 65, .bin .add .int (.tmp 36) (.const (.int .i64 1)), none⟩,
     ⟨some 36, .mov (.tmp 65), none⟩])))
def ac45_l2 : AC := .seq
 (.reg [⟨some 23, .bin .lss .int (.tmp 22) (.tmp 21), none⟩])
 (.seq
  (.cond (.tmp 23)
   (.skip)
   (.exit 2))
  (.seq
   (.block 3
    (.seq
     (.reg [⟨some 24, .mov (.tmp 22), none⟩,
       ⟨some 25, .iaddr 2 (.tmp 20) (.tmp 22), none⟩,
       ⟨some 26, .load true 2 (.tmp 25), none⟩,
       ⟨some 5, .alloc 132 2 [(.int .i64 0), (.slice none 0 0)], none⟩,
       ⟨some 4, .mov (.tmp 24), none⟩,
       ⟨none, .store 2 (.tmp 5) (.tmp 26), none⟩])
     (.seq
      (.seq
       (.reg [⟨some 27, .faddr 0 (.tmp 5), none⟩,
         ⟨some 28, .load false 1 (.tmp 27), none⟩,
         ⟨some 29, .bin .neq .int (.tmp 28) (.const (.int .i64 1)), none⟩])
       (.cond (.tmp 29)
        (.seq
         (.reg [⟨some 30, .mov (.tmp 3), none⟩,
           ⟨some 31, .mov (.tmp 4), none⟩,
           ⟨some 32, .iaddr 1 (.tmp 30) (.tmp 31), none⟩,
           ⟨none, .store 1 (.tmp 32) (.const (.bool true)), none⟩])
         (.exit 3))
        (.skip)))
      (.seq
       (.reg [⟨some 33, .faddr 1 (.tmp 5), none⟩,
         ⟨some 34, .load false 1 (.tmp 33), none⟩,
         ⟨some 35, .slen false (.tmp 34), none⟩,
         ⟨some 36, .mov (.const (.int .i64 0)), none⟩])
       (.block 4
        (.loop ac45_l1))))))
   (.reg [⟨some 66, .bin .add .int (.tmp 22) (.const (.int .i64 1)), none⟩,
     ⟨some 22, .mov (.tmp 66), none⟩])))
def ac45_l3 : AC := .seq
 (.reg [⟨some 19, .bin .lss .int (.tmp 18) (.tmp 17), none⟩])
 (.seq
  (.cond (.tmp 19)
   (.skip)
   (.exit 0))
  (.seq
   (.block 1
    (.seq
     (.reg [⟨some 20, .mov (.tmp 0), none⟩,
       ⟨some 21, .slen false (.tmp 20), none⟩,
       ⟨some 22, .mov (.const (.int .i64 0)), none⟩])
     (.block 2
      (.loop ac45_l2))))
   (.reg [⟨some 67, .bin .add .int (.tmp 18) (.const (.int .i64 1)), none⟩,
     ⟨some 18, .mov (.tmp 67), none⟩])))
def ac45_l4 : AC := .seq
 (.reg [⟨some 71, .bin .lss .int (.tmp 70) (.tmp 69), none⟩])
 (.seq
  (.cond (.tmp 71)
   (.skip)
   (.exit 8))
  (.seq
   (.block 9
    (.seq
     (.reg [⟨some 72, .iaddr 1 (.tmp 68) (.tmp 70), none⟩,
       ⟨some 73, .load false 1 (.tmp 72), none⟩,
       ⟨some 12, .mov (.tmp 73), none⟩])
     (.seq
      (.reg [⟨some 74, .mov (.tmp 12), none⟩,
        ⟨some 75, .un .not (.tmp 74), none⟩])
      (.cond (.tmp 75)
       (.seq
        (.reg [⟨some 2, .mov (.const (.bool false)), none⟩])
        (.ret))
       (.skip)))))
   (.reg [⟨some 76, .bin .add .int (.tmp 70) (.const (.int .i64 1)), none⟩,
     ⟨some 70, .mov (.tmp 76), none⟩])))
def ac45 : AC := .seq
 (.reg [⟨some 2, .mov (.const (.bool false)), none⟩])
 (.seq
  (.reg [⟨some 13, .mov (.tmp 0), none⟩,
    ⟨some 14, .slen false (.tmp 13), none⟩,
    ⟨some 15, .mkslice 4 1 [(.bool false)] (.tmp 14) (.tmp 14), none⟩,
    ⟨some 3, .mov (.tmp 15), none⟩])
  (.seq
   (.seq
    (.reg [⟨some 16, .mov (.tmp 0), none⟩,
      ⟨some 17, .slen false (.tmp 16), none⟩,
      ⟨some 18, .mov (.const (.int .i64 0)), none⟩])
    (.block 0
     (.loop ac45_l3)))
   (.seq
    (.seq
     (.reg [⟨some 68, .mov (.tmp 3), none⟩,
       ⟨some 69, .slen false (.tmp 68), none⟩,
       ⟨some 70, .mov (.const (.int .i64 0)), none⟩])
     (.block 8
      (.loop ac45_l4)))
    (.seq
     (.reg [⟨some 2, .mov (.const (.bool true)), none⟩])
     (.ret)))))
theorem fn45 : Fun Try.prog 45 77 ac45 [.tmp 2] := ⟨mixedR, Try.f45, _, Try.func45, rfl, by decide +kernel, rfl, by kernel_rfl, by kernel_rfl⟩
/- slices.ContainsFunc[[][]glossator/api.Pattern,[]glossator/api.Pattern] -/
def ac48 : AC := .seq
 (.reg [⟨some 4, .mov (.const (.bool false)), none⟩])
 (.seq
  (.reg [⟨some 5, .mov (.tmp 0), none⟩,
    ⟨some 6, .mov (.tmp 1), none⟩,
    ⟨some 7, .call (.func 115) [(.tmp 5), (.tmp 6)], none⟩,
    ⟨some 8, .bin .geq .int (.tmp 7) (.const (.int .i64 0)), none⟩,
    ⟨some 4, .mov (.tmp 8), none⟩])
  (.ret))
theorem fn48 : Fun Try.prog 48 9 ac48 [.tmp 4] := ⟨mixedR, Try.f48, _, Try.func48, rfl, by decide +kernel, rfl, by kernel_rfl, by kernel_rfl⟩
/- slices.Equal[[]int,int] -/
def ac51_l0 : AC := .seq
 (.reg [⟨some 14, .bin .lss .int (.tmp 13) (.tmp 12), none⟩])
 (.seq
  (.cond (.tmp 14)
   (.skip)
   (.exit 0))
  (.seq
   (.block 1
    (.seq
     (.reg [⟨some 15, .mov (.tmp 13), none⟩,
       ⟨some 5, .mov (.tmp 15), none⟩])
     (.seq
      (.dreg [⟨some 16, .mov (.tmp 0), none⟩,
        ⟨some 17, .mov (.tmp 5), none⟩,
        ⟨some 18, .iaddr 1 (.tmp 16) (.tmp 17), none⟩,
        ⟨some 19, .load false 1 (.tmp 18), none⟩,
        ⟨some 20, .mov (.tmp 1), none⟩,
        ⟨some 21, .mov (.tmp 5), none⟩,
        ⟨some 22, .iaddr 1 (.tmp 20) (.tmp 21), none⟩,
        ⟨some 23, .load false 1 (.tmp 22), none⟩,
        ⟨some 24, .bin .neq .int (.tmp 19) (.tmp 23), none⟩]
        [[], [], [0, 1], [2], [], [], [4, 5], [6], [3, 7]]
        [[0], [5], [16, 17], [18], [1], [5], [20, 21], [22], [19, 23]])
      (.cond (.tmp 24)
       (.seq
        (.reg [⟨some 4, .mov (.const (.bool false)), none⟩])
        (.ret))
       (.skip)))))
   (.reg [⟨some 25, .bin .add .int (.tmp 13) (.const (.int .i64 1)), none⟩,
     ⟨some 13, .mov (.tmp 25), none⟩])))
def ac51 : AC := .seq
 (.reg [⟨some 4, .mov (.const (.bool false)), none⟩])
 (.seq
  (.seq
   (.reg [⟨some 6, .mov (.tmp 0), none⟩,
     ⟨some 7, .slen false (.tmp 6), none⟩,
     ⟨some 8, .mov (.tmp 1), none⟩,
     ⟨some 9, .slen false (.tmp 8), none⟩,
     ⟨some 10, .bin .neq .int (.tmp 7) (.tmp 9), none⟩])
   (.cond (.tmp 10)
    (.seq
     (.reg [⟨some 4, .mov (.const (.bool false)), none⟩])
     (.ret))
    (.skip)))
  (.seq
   (.seq
    (.reg [⟨some 11, .mov (.tmp 0), none⟩,
      ⟨some 12, .slen false (.tmp 11), none⟩,
      ⟨some 13, .mov (.const (.int .i64 0)), none⟩])
    (.block 0
     (.loop ac51_l0)))
   (.seq
    (.reg [⟨some 4, .mov (.const (.bool true)), none⟩])
    (.ret))))
theorem fn51 : Fun Try.prog 51 26 ac51 [.tmp 4] := ⟨mixedR, Try.f51, _, Try.func51, rfl, by decide +kernel, rfl, by kernel_rfl, by kernel_rfl⟩
/- glossator/glossatorkeep2.exhaustiveWorks -/
def ac52 : AC := .seq
 (.reg [⟨some 0, .mov (.const (.bool false)), none⟩])
 (.seq
  (.reg [⟨some 7, .call (.func 117) [(.const (.int .i64 1)), (.const (.int .i64 5)), (.const (.slice none 0 0))], none⟩,
    ⟨some 8, .bslice 127 3 [(.int .i64 0), (.int .i64 0), (.slice none 0 0)] 1 [(0, (.tmp 7))], none⟩,
    ⟨some 9, .call (.func 117) [(.const (.int .i64 3)), (.const (.int .i64 1)), (.const (.slice none 0 0))], none⟩,
    ⟨some 10, .build [(.int .i64 0), (.int .i64 0), (.slice none 0 0)] [(0, 1), (1, 1), (2, 1)] [], none⟩,
    ⟨some 11, .bslice 127 3 [(.int .i64 0), (.int .i64 0), (.slice none 0 0)] 2 [(0, (.tmp 9)), (1, (.tmp 10))], none⟩,
    ⟨some 12, .call (.func 117) [(.const (.int .i64 1)), (.const (.int .i64 6)), (.tmp 11)], none⟩,
    ⟨some 13, .bslice 127 3 [(.int .i64 0), (.int .i64 0), (.slice none 0 0)] 1 [(0, (.tmp 12))], none⟩,
    ⟨some 14, .bslice 64 1 [(.slice none 0 0)] 2 [(0, (.tmp 8)), (1, (.tmp 13))], none⟩,
    ⟨some 1, .mov (.tmp 14), none⟩])
  (.seq
   (.reg [⟨some 16, .call (.func 118) [], none⟩,
     ⟨some 17, .bslice 3 1 [(.int .i64 0)] 1 [(0, (.const (.int .i64 0)))], none⟩,
     ⟨some 18, .mov (.tmp 1), none⟩,
     ⟨some 19, .call (.func 42) [(.tmp 16), (.tmp 17), (.tmp 18)], none⟩,
     ⟨some 15, .mov (.tmp 19), none⟩,
     ⟨some 20, .ext (.tmp 15) 0, none⟩,
     ⟨some 21, .ext (.tmp 15) 1, none⟩,
     ⟨some 2, .mov (.tmp 20), none⟩,
     ⟨some 3, .mov (.tmp 21), none⟩])
   (.seq
    (.reg [⟨some 22, .mov (.tmp 1), none⟩,
      ⟨some 23, .build [(.int .i64 0), (.int .i64 0), (.slice none 0 0)] [(0, 1), (1, 1), (2, 1)] [], none⟩,
      ⟨some 24, .bslice 127 3 [(.int .i64 0), (.int .i64 0), (.slice none 0 0)] 1 [(0, (.tmp 23))], none⟩,
      ⟨some 25, .call (.func 117) [(.const (.int .i64 1)), (.const (.int .i64 5)), (.const (.slice none 0 0))], none⟩,
      ⟨some 26, .bslice 127 3 [(.int .i64 0), (.int .i64 0), (.slice none 0 0)] 1 [(0, (.tmp 25))], none⟩,
      ⟨some 27, .bslice 64 1 [(.slice none 0 0)] 2 [(0, (.tmp 24)), (1, (.tmp 26))], none⟩,
      ⟨some 28, .app 64 1 (.tmp 22) (.tmp 27), none⟩,
      ⟨some 4, .mov (.tmp 28), none⟩])
    (.seq
     (.reg [⟨some 30, .call (.func 118) [], none⟩,
       ⟨some 31, .bslice 3 1 [(.int .i64 0)] 1 [(0, (.const (.int .i64 0)))], none⟩,
       ⟨some 32, .mov (.tmp 4), none⟩,
       ⟨some 33, .call (.func 42) [(.tmp 30), (.tmp 31), (.tmp 32)], none⟩,
       ⟨some 29, .mov (.tmp 33), none⟩,
       ⟨some 34, .ext (.tmp 29) 0, none⟩,
       ⟨some 35, .ext (.tmp 29) 1, none⟩,
       ⟨some 5, .mov (.tmp 34), none⟩,
       ⟨some 6, .mov (.tmp 35), none⟩])
     (.seq
      (.reg [⟨some 36, .mov (.tmp 3), none⟩,
        ⟨some 37, .mov (.tmp 36), none⟩,
        ⟨some 38, .mov (.tmp 6), some (37, true)⟩,
        ⟨some 39, .un .not (.tmp 38), some (37, true)⟩,
        ⟨some 40, .pick (.tmp 37) (.tmp 39) (.const (.bool false)), none⟩,
        ⟨some 41, .mov (.tmp 40), none⟩,
        ⟨some 42, .mov (.tmp 2), some (41, true)⟩,
        ⟨some 43, .slen false (.tmp 42), some (41, true)⟩,
        ⟨some 44, .bin .eql .int (.tmp 43) (.const (.int .i64 1)), some (41, true)⟩,
        ⟨some 45, .pick (.tmp 41) (.tmp 44) (.const (.bool false)), none⟩,
        ⟨some 46, .mov (.tmp 45), none⟩,
        ⟨some 47, .mov (.tmp 2), some (46, true)⟩,
        ⟨some 48, .iaddr 3 (.tmp 47) (.const (.int .i64 0)), some (46, true)⟩,
        ⟨some 49, .faddr 1 (.tmp 48), some (46, true)⟩,
        ⟨some 50, .load false 1 (.tmp 49), some (46, true)⟩,
        ⟨some 51, .bin .eql .int (.tmp 50) (.const (.int .i64 6)), some (46, true)⟩,
        ⟨some 52, .pick (.tmp 46) (.tmp 51) (.const (.bool false)), none⟩,
        ⟨some 53, .mov (.tmp 52), none⟩,
        ⟨some 54, .mov (.tmp 2), some (53, true)⟩,
        ⟨some 55, .iaddr 3 (.tmp 54) (.const (.int .i64 0)), some (53, true)⟩,
        ⟨some 56, .faddr 2 (.tmp 55), some (53, true)⟩,
        ⟨some 57, .load false 1 (.tmp 56), some (53, true)⟩,
        ⟨some 58, .slen false (.tmp 57), some (53, true)⟩,
        ⟨some 59, .bin .eql .int (.tmp 58) (.const (.int .i64 2)), some (53, true)⟩,
        ⟨some 60, .pick (.tmp 53) (.tmp 59) (.const (.bool false)), none⟩,
        ⟨some 61, .mov (.tmp 60), none⟩,
        ⟨some 62, .mov (.tmp 2), some (61, true)⟩,
        ⟨some 63, .iaddr 3 (.tmp 62) (.const (.int .i64 0)), some (61, true)⟩,
        ⟨some 64, .faddr 2 (.tmp 63), some (61, true)⟩,
        ⟨some 65, .load false 1 (.tmp 64), some (61, true)⟩,
        ⟨some 66, .iaddr 3 (.tmp 65) (.const (.int .i64 0)), some (61, true)⟩,
        ⟨some 67, .faddr 0 (.tmp 66), some (61, true)⟩,
        ⟨some 68, .load false 1 (.tmp 67), some (61, true)⟩,
        ⟨some 69, .bin .eql .int (.tmp 68) (.const (.int .i64 3)), some (61, true)⟩,
        ⟨some 70, .pick (.tmp 61) (.tmp 69) (.const (.bool false)), none⟩,
        ⟨some 71, .mov (.tmp 70), none⟩,
        ⟨some 72, .mov (.tmp 2), some (71, true)⟩,
        ⟨some 73, .iaddr 3 (.tmp 72) (.const (.int .i64 0)), some (71, true)⟩,
        ⟨some 74, .faddr 2 (.tmp 73), some (71, true)⟩,
        ⟨some 75, .load false 1 (.tmp 74), some (71, true)⟩,
        ⟨some 76, .iaddr 3 (.tmp 75) (.const (.int .i64 0)), some (71, true)⟩,
        ⟨some 77, .faddr 1 (.tmp 76), some (71, true)⟩,
        ⟨some 78, .load false 1 (.tmp 77), some (71, true)⟩,
        ⟨some 79, .bin .eql .int (.tmp 78) (.const (.int .i64 0)), some (71, true)⟩,
        ⟨some 80, .pick (.tmp 71) (.tmp 79) (.const (.bool false)), none⟩,
        ⟨some 81, .mov (.tmp 80), none⟩,
        ⟨some 82, .call (.func 118) [], some (81, true)⟩,
        ⟨some 83, .bslice 3 1 [(.int .i64 0)] 1 [(0, (.const (.int .i64 0)))], some (81, true)⟩,
        ⟨some 84, .mov (.tmp 4), some (81, true)⟩,
        ⟨some 85, .call (.func 43) [(.tmp 82), (.tmp 83), (.tmp 84)], some (81, true)⟩,
        ⟨some 86, .bslice 3 1 [(.int .i64 0)] 1 [(0, (.const (.int .i64 3)))], some (81, true)⟩,
        ⟨some 87, .call (.func 51) [(.tmp 85), (.tmp 86)], some (81, true)⟩,
        ⟨some 88, .pick (.tmp 81) (.tmp 87) (.const (.bool false)), none⟩,
        ⟨some 0, .mov (.tmp 88), none⟩])
      (.ret))))))
theorem fn52 : Fun Try.prog 52 89 ac52 [.tmp 0] := ⟨mixedR, Try.f52, _, Try.func52, rfl, by decide +kernel, rfl, by kernel_rfl, by kernel_rfl⟩
/- slices.Clone[[][]glossator/api.Pattern,[]glossator/api.Pattern] -/
def ac53 : AC := .seq
 (.reg [⟨some 2, .mov (.const (.slice none 0 0)), none⟩])
 (.seq
  (.seq
   (.reg [⟨some 3, .mov (.tmp 0), none⟩,
     ⟨some 4, .bin .eql .slice (.tmp 3) (.const (.slice none 0 0)), none⟩])
   (.cond (.tmp 4)
    (.seq
     (.reg [⟨some 2, .mov (.const (.slice none 0 0)), none⟩])
     (.ret))
    (.skip)))
  (.seq
   (.reg [⟨some 5, .bslice 64 1 [(.slice none 0 0)] 0 [], none⟩,
     ⟨some 6, .mov (.tmp 0), none⟩,
     ⟨some 7, .app 64 1 (.tmp 5) (.tmp 6), none⟩,
     ⟨some 2, .mov (.tmp 7), none⟩])
   (.ret)))
theorem fn53 : Fun Try.prog 53 8 ac53 [.tmp 2] := ⟨mixedR, Try.f53, _, Try.func53, rfl, by decide +kernel, rfl, by kernel_rfl, by kernel_rfl⟩
/- slices.Contains[[]int,int] -/
def ac54 : AC := .seq
 (.reg [⟨some 4, .mov (.const (.bool false)), none⟩])
 (.seq
  (.reg [⟨some 5, .mov (.tmp 0), none⟩,
    ⟨some 6, .mov (.tmp 1), none⟩,
    ⟨some 7, .call (.func 119) [(.tmp 5), (.tmp 6)], none⟩,
    ⟨some 8, .bin .geq .int (.tmp 7) (.const (.int .i64 0)), none⟩,
    ⟨some 4, .mov (.tmp 8), none⟩])
  (.ret))
theorem fn54 : Fun Try.prog 54 9 ac54 [.tmp 4] := ⟨mixedR, Try.f54, _, Try.func54, rfl, by decide +kernel, rfl, by kernel_rfl, by kernel_rfl⟩
/- slices.Reverse[[][]glossator/api.Pattern,[]glossator/api.Pattern] -/
def ac55_l0 : AC := .seq
 (.seq
  (.reg [⟨some 7, .mov (.tmp 2), none⟩,
    ⟨some 8, .mov (.tmp 3), none⟩,
    ⟨some 9, .bin .lss .int (.tmp 7) (.tmp 8), none⟩])
  (.cond (.tmp 9)
   (.skip)
   (.exit 0)))
 (.seq
  (.block 1
   (.dreg [⟨some 14, .mov (.tmp 0), none⟩,
     ⟨some 15, .mov (.tmp 2), none⟩,
     ⟨some 16, .mov (.tmp 0), none⟩,
     ⟨some 17, .mov (.tmp 3), none⟩,
     ⟨some 18, .mov (.tmp 0), none⟩,
     ⟨some 19, .mov (.tmp 3), none⟩,
     ⟨some 20, .iaddr 1 (.tmp 18) (.tmp 19), none⟩,
     ⟨some 21, .load false 1 (.tmp 20), none⟩,
     ⟨some 22, .mov (.tmp 0), none⟩,
     ⟨some 23, .mov (.tmp 2), none⟩,
     ⟨some 24, .iaddr 1 (.tmp 22) (.tmp 23), none⟩,
     ⟨some 25, .load false 1 (.tmp 24), none⟩,
     ⟨some 26, .iaddr 1 (.tmp 14) (.tmp 15), none⟩,
     ⟨none, .store 1 (.tmp 26) (.tmp 21), none⟩,
     ⟨some 27, .iaddr 1 (.tmp 16) (.tmp 17), none⟩,
     ⟨none, .store 1 (.tmp 27) (.tmp 25), none⟩]
     [[], [], [], [], [], [], [4, 5], [6], [], [], [8, 9], [10], [0, 1, 0, 1, 4, 5, 6, 7, 11], [12, 7, 0, 1, 4, 5, 6, 7, 11], [2, 3, 0, 1, 2, 3, 4, 5, 6, 7, 8, 9, 10, 11, 12, 13], [14, 11, 13, 0, 1, 2, 3, 4, 5, 6, 7, 8, 9, 10, 11, 12, 13]]
     [[0], [2], [0], [3], [0], [3], [18, 19], [20], [0], [2], [22, 23], [24], [14, 15], [26, 21], [16, 17], [27, 25]]))
  (.reg [⟨some 10, .mov (.tmp 2), none⟩,
    ⟨some 11, .bin .add .int (.tmp 10) (.const (.int .i64 1)), none⟩,
    ⟨some 12, .mov (.tmp 3), none⟩,
    ⟨some 13, .bin .sub .int (.tmp 12) (.const (.int .i64 1)), none⟩,
    ⟨some 2, .mov (.tmp 11), none⟩,
    ⟨some 3, .mov (.tmp 13), none⟩]))
def ac55 : AC := .seq
 (.reg [⟨some 4, .mov (.tmp 0), none⟩,
   ⟨some 5, .slen false (.tmp 4), none⟩,
   ⟨some 6, .bin .sub .int (.tmp 5) (.const (.int .i64 1)), none⟩,
   ⟨some 2, .mov (.const (.int .i64 0)), none⟩,
   ⟨some 3, .mov (.tmp 6), none⟩])
 (.block 0
  (.loop ac55_l0))
theorem fn55 : Fun Try.prog 55 28 ac55 [] := ⟨mixedR, Try.f55, _, Try.func55, rfl, by decide +kernel, rfl, by kernel_rfl, by kernel_rfl⟩
/- glossator/exhaustive.Matches -/
def ac56 : AC := .seq
 (.reg [⟨some 4, .mov (.const (.bool false)), none⟩])
 (.seq
  (.reg [⟨some 5, .mov (.tmp 0), none⟩,
    ⟨some 6, .mov (.tmp 1), none⟩,
    ⟨some 7, .call (.func 120) [(.tmp 5), (.tmp 6), (.func 121)], none⟩,
    ⟨some 4, .mov (.tmp 7), none⟩])
  (.ret))
theorem fn56 : Fun Try.prog 56 8 ac56 [.tmp 4] := ⟨mixedR, Try.f56, _, Try.func56, rfl, by decide +kernel, rfl, by kernel_rfl, by kernel_rfl⟩
/- glossator/glossatorkeep2.MissingRowIsUnmatched$1 -/
def ac57 : AC := .seq
 (.reg [⟨some 3, .mov (.const (.bool false)), none⟩])
 (.seq
  (.reg [⟨some 4, .mov (.tmp 0), none⟩,
    ⟨some 5, .load false 1 (.tmp 1), none⟩,
    ⟨some 6, .call (.func 56) [(.tmp 4), (.tmp 5)], none⟩,
    ⟨some 3, .mov (.tmp 6), none⟩])
  (.ret))
theorem fn57 : Fun Try.prog 57 7 ac57 [.tmp 3] := ⟨mixedR, Try.f57, _, Try.func57, rfl, by decide +kernel, rfl, by kernel_rfl, by kernel_rfl⟩
/- glossator/glossatorlaw2.rowMatches -/
def ac58_l0 : AC := .seq
 (.reg [⟨some 16, .bin .lss .int (.tmp 15) (.tmp 14), none⟩])
 (.seq
  (.cond (.tmp 16)
   (.skip)
   (.exit 0))
  (.seq
   (.block 1
    (.seq
     (.reg [⟨some 17, .mov (.tmp 15), none⟩,
       ⟨some 18, .iaddr 3 (.tmp 13) (.tmp 15), none⟩,
       ⟨some 19, .load true 3 (.tmp 18), none⟩,
       ⟨some 6, .alloc 127 3 [(.int .i64 0), (.int .i64 0), (.slice none 0 0)], none⟩,
       ⟨some 5, .mov (.tmp 17), none⟩,
       ⟨none, .store 3 (.tmp 6) (.tmp 19), none⟩])
     (.seq
      (.reg [⟨some 20, .mov (.tmp 1), none⟩,
        ⟨some 21, .mov (.tmp 5), none⟩,
        ⟨some 22, .iaddr 3 (.tmp 20) (.tmp 21), none⟩,
        ⟨some 23, .load true 3 (.tmp 22), none⟩,
        ⟨some 7, .alloc 127 3 [(.int .i64 0), (.int .i64 0), (.slice none 0 0)], none⟩,
        ⟨none, .store 3 (.tmp 7) (.tmp 23), none⟩])
      (.seq
       (.reg [⟨some 24, .faddr 0 (.tmp 6), none⟩,
         ⟨some 25, .load false 1 (.tmp 24), none⟩,
         ⟨some 26, .bin .neq .int (.tmp 25) (.const (.int .i64 0)), none⟩,
         ⟨some 27, .mov (.tmp 26), none⟩,
         ⟨some 28, .faddr 0 (.tmp 6), some (27, true)⟩,
         ⟨some 29, .load false 1 (.tmp 28), some (27, true)⟩,
         ⟨some 30, .faddr 0 (.tmp 7), some (27, true)⟩,
         ⟨some 31, .load false 1 (.tmp 30), some (27, true)⟩,
         ⟨some 32, .bin .neq .int (.tmp 29) (.tmp 31), some (27, true)⟩,
         ⟨some 33, .mov (.tmp 32), some (27, true)⟩,
         ⟨some 34, .faddr 1 (.tmp 6), some (33, false)⟩,
         ⟨some 35, .load false 1 (.tmp 34), some (33, false)⟩,
         ⟨some 36, .faddr 1 (.tmp 7), some (33, false)⟩,
         ⟨some 37, .load false 1 (.tmp 36), some (33, false)⟩,
         ⟨some 38, .bin .neq .int (.tmp 35) (.tmp 37), some (33, false)⟩,
         ⟨some 39, .pick (.tmp 33) (.const (.bool true)) (.tmp 38), some (27, true)⟩,
         ⟨some 40, .mov (.tmp 39), some (27, true)⟩,
         ⟨some 41, .faddr 2 (.tmp 6), some (40, false)⟩,
         ⟨some 42, .load false 1 (.tmp 41), some (40, false)⟩,
         ⟨some 43, .faddr 2 (.tmp 7), some (40, false)⟩,
         ⟨some 44, .load false 1 (.tmp 43), some (40, false)⟩,
         ⟨some 45, .call (.func 58) [(.tmp 42), (.tmp 44)], some (40, false)⟩,
         ⟨some 46, .un .not (.tmp 45), some (40, false)⟩,
         ⟨some 47, .pick (.tmp 40) (.const (.bool true)) (.tmp 46), some (27, true)⟩,
         ⟨some 48, .pick (.tmp 27) (.tmp 47) (.const (.bool false)), none⟩])
       (.cond (.tmp 48)
        (.seq
         (.reg [⟨some 4, .mov (.const (.bool false)), none⟩])
         (.ret))
        (.skip))))))
   (.reg [⟨some 49, .bin .add .int (.tmp 15) (.const (.int .i64 1)), none⟩,
     ⟨some 15, .mov (.tmp 49), none⟩])))
def ac58 : AC := .seq
 (.reg [⟨some 4, .mov (.const (.bool false)), none⟩])
 (.seq
  (.seq
   (.reg [⟨some 8, .mov (.tmp 0), none⟩,
     ⟨some 9, .slen false (.tmp 8), none⟩,
     ⟨some 10, .mov (.tmp 1), none⟩,
     ⟨some 11, .slen false (.tmp 10), none⟩,
     ⟨some 12, .bin .neq .int (.tmp 9) (.tmp 11), none⟩])
   (.cond (.tmp 12)
    (.seq
     (.reg [⟨some 4, .mov (.const (.bool false)), none⟩])
     (.ret))
    (.skip)))
  (.seq
   (.seq
    (.reg [⟨some 13, .mov (.tmp 0), none⟩,
      ⟨some 14, .slen false (.tmp 13), none⟩,
      ⟨some 15, .mov (.const (.int .i64 0)), none⟩])
    (.block 0
     (.loop ac58_l0)))
   (.seq
    (.reg [⟨some 4, .mov (.const (.bool true)), none⟩])
    (.ret))))
theorem fn58 : Fun Try.prog 58 50 ac58 [.tmp 4] := ⟨mixedR, Try.f58, _, Try.func58, rfl, by decide +kernel, rfl, by kernel_rfl, by kernel_rfl⟩
/- glossator/glossatorlaw2.pattern -/
def ac97 : AC := .seq
 (.reg [⟨some 6, .alloc 127 3 [(.int .i64 0), (.int .i64 0), (.slice none 0 0)], none⟩])
 (.seq
  (.reg [⟨some 7, .mov (.tmp 0), none⟩,
    ⟨some 8, .mov (.tmp 1), none⟩,
    ⟨some 9, .mov (.tmp 2), none⟩,
    ⟨some 10, .build [(.int .i64 0), (.int .i64 0), (.slice none 0 0)] [(0, 1), (1, 1), (2, 1)] [(0, (.tmp 7)), (1, (.tmp 8)), (2, (.tmp 9))], none⟩,
    ⟨none, .store 3 (.tmp 6) (.tmp 10), none⟩])
  (.ret))
theorem fn97 : Fun Try.prog 97 11 ac97 [.cell 6 3 true] := ⟨mixedR, Try.f97, _, Try.func97, rfl, by decide +kernel, rfl, by kernel_rfl, by kernel_rfl⟩
/- glossator/glossatorlaw2.listDomains -/
def ac98 : AC := .seq
 (.reg [⟨some 0, .mov (.const (.slice none 0 0)), none⟩])
 (.seq
  (.reg [⟨some 1, .build [(.int .i64 0), (.slice none 0 0)] [(0, 1), (1, 1)] [(0, (.const (.int .i64 5)))], none⟩,
    ⟨some 2, .bslice 3 1 [(.int .i64 0)] 2 [(0, (.const (.int .i64 1))), (1, (.const (.int .i64 0)))], none⟩,
    ⟨some 3, .build [(.int .i64 0), (.slice none 0 0)] [(0, 1), (1, 1)] [(0, (.const (.int .i64 6))), (1, (.tmp 2))], none⟩,
    ⟨some 4, .bslice 135 2 [(.int .i64 0), (.slice none 0 0)] 2 [(0, (.tmp 1)), (1, (.tmp 3))], none⟩,
    ⟨some 5, .build [(.int .i64 0), (.slice none 0 0)] [(0, 1), (1, 1)] [(0, (.const (.int .i64 1))), (1, (.tmp 4))], none⟩,
    ⟨some 6, .build [(.int .i64 0), (.slice none 0 0)] [(0, 1), (1, 1)] [(0, (.const (.int .i64 3)))], none⟩,
    ⟨some 7, .build [(.int .i64 0), (.slice none 0 0)] [(0, 1), (1, 1)] [(0, (.const (.int .i64 2)))], none⟩,
    ⟨some 8, .bslice 132 2 [(.int .i64 0), (.slice none 0 0)] 3 [(0, (.tmp 5)), (1, (.tmp 6)), (2, (.tmp 7))], none⟩,
    ⟨some 0, .mov (.tmp 8), none⟩])
  (.ret))
theorem fn98 : Fun Try.prog 98 9 ac98 [.tmp 0] := ⟨mixedR, Try.f98, _, Try.func98, rfl, by decide +kernel, rfl, by kernel_rfl, by kernel_rfl⟩
/- slices.ContainsFunc[[]glossator/api.DomainVariant,glossator/api.DomainVariant] -/
def ac99 : AC := .seq
 (.reg [⟨some 4, .mov (.const (.bool false)), none⟩])
 (.seq
  (.reg [⟨some 5, .mov (.tmp 0), none⟩,
    ⟨some 6, .mov (.tmp 1), none⟩,
    ⟨some 7, .call (.func 154) [(.tmp 5), (.tmp 6)], none⟩,
    ⟨some 8, .bin .geq .int (.tmp 7) (.const (.int .i64 0)), none⟩,
    ⟨some 4, .mov (.tmp 8), none⟩])
  (.ret))
theorem fn99 : Fun Try.prog 99 9 ac99 [.tmp 4] := ⟨mixedR, Try.f99, _, Try.func99, rfl, by decide +kernel, rfl, by kernel_rfl, by kernel_rfl⟩
/- glossator/exhaustive.Validate$1 -/
def ac100 : AC := .seq
 (.reg [⟨some 1, .box 135 2 (.tmp 0), none⟩,
   ⟨some 2, .mov (.const (.bool false)), none⟩])
 (.seq
  (.reg [⟨some 3, .faddr 1 (.tmp 1), none⟩,
    ⟨some 4, .load false 1 (.tmp 3), none⟩,
    ⟨some 5, .slen false (.tmp 4), none⟩,
    ⟨some 6, .bin .gtr .int (.tmp 5) (.const (.int .i64 4)), none⟩,
    ⟨some 2, .mov (.tmp 6), none⟩])
  (.ret))
theorem fn100 : Fun Try.prog 100 7 ac100 [.tmp 2] := ⟨mixedR, Try.f100, _, Try.func100, rfl, by decide +kernel, rfl, by kernel_rfl, by kernel_rfl⟩
/- slices.ContainsFunc[[]glossator/api.Domain,glossator/api.Domain] -/
def ac101 : AC := .seq
 (.reg [⟨some 4, .mov (.const (.bool false)), none⟩])
 (.seq
  (.reg [⟨some 5, .mov (.tmp 0), none⟩,
    ⟨some 6, .mov (.tmp 1), none⟩,
    ⟨some 7, .call (.func 155) [(.tmp 5), (.tmp 6)], none⟩,
    ⟨some 8, .bin .geq .int (.tmp 7) (.const (.int .i64 0)), none⟩,
    ⟨some 4, .mov (.tmp 8), none⟩])
  (.ret))
theorem fn101 : Fun Try.prog 101 9 ac101 [.tmp 4] := ⟨mixedR, Try.f101, _, Try.func101, rfl, by decide +kernel, rfl, by kernel_rfl, by kernel_rfl⟩
/- glossator/exhaustive.Validate$2 -/
def ac102 : AC := .seq
 (.reg [⟨some 2, .box 132 2 (.tmp 0), none⟩,
   ⟨some 3, .mov (.const (.bool false)), none⟩])
 (.seq
  (.reg [⟨some 4, .load true 1 (.tmp 1), none⟩,
    ⟨some 5, .load true 2 (.tmp 2), none⟩,
    ⟨some 6, .call (.func 103) [(.tmp 4), (.tmp 5)], none⟩,
    ⟨some 7, .un .not (.tmp 6), none⟩,
    ⟨some 3, .mov (.tmp 7), none⟩])
  (.ret))
theorem fn102 : Fun Try.prog 102 8 ac102 [.tmp 3] := ⟨mixedR, Try.f102, _, Try.func102, rfl, by decide +kernel, rfl, by kernel_rfl, by kernel_rfl⟩
/- (glossator/exhaustive.matrix).validVariants -/
def ac103_l0 : AC := .seq
 (.reg [⟨some 31, .bin .lss .int (.tmp 30) (.tmp 29), none⟩])
 (.seq
  (.cond (.tmp 31)
   (.skip)
   (.exit 0))
  (.seq
   (.block 1
    (.seq
     (.reg [⟨some 32, .mov (.tmp 30), none⟩,
       ⟨some 33, .iaddr 2 (.tmp 28) (.tmp 30), none⟩,
       ⟨some 34, .load true 2 (.tmp 33), none⟩,
       ⟨some 6, .alloc 135 2 [(.int .i64 0), (.slice none 0 0)], none⟩,
       ⟨some 5, .mov (.tmp 32), none⟩,
       ⟨none, .store 2 (.tmp 6) (.tmp 34), none⟩])
     (.seq
      (.reg [⟨some 35, .faddr 1 (.tmp 3), none⟩,
        ⟨some 36, .load false 1 (.tmp 35), none⟩,
        ⟨some 37, .mov (.tmp 5), none⟩,
        ⟨some 38, .slice 2 (.tmp 36) none (some (.tmp 37)) none, none⟩,
        ⟨some 39, .mkfn 156 [(.tmp 6)], none⟩,
        ⟨some 40, .call (.func 99) [(.tmp 38), (.tmp 39)], none⟩,
        ⟨some 7, .mov (.tmp 40), none⟩])
      (.seq
       (.reg [⟨some 41, .mov (.tmp 7), none⟩,
         ⟨some 42, .mov (.tmp 41), none⟩,
         ⟨some 43, .faddr 1 (.tmp 6), some (42, false)⟩,
         ⟨some 44, .load false 1 (.tmp 43), some (42, false)⟩,
         ⟨some 45, .mkfn 157 [(.tmp 2)], some (42, false)⟩,
         ⟨some 46, .call (.func 104) [(.tmp 44), (.tmp 45)], some (42, false)⟩,
         ⟨some 47, .pick (.tmp 42) (.const (.bool true)) (.tmp 46), none⟩])
       (.cond (.tmp 47)
        (.seq
         (.reg [⟨some 4, .mov (.const (.bool false)), none⟩])
         (.ret))
        (.skip))))))
   (.reg [⟨some 48, .bin .add .int (.tmp 30) (.const (.int .i64 1)), none⟩,
     ⟨some 30, .mov (.tmp 48), none⟩])))
def ac103 : AC := .seq
 (.reg [⟨some 2, .box 138 1 (.tmp 0), none⟩,
   ⟨some 3, .box 132 2 (.tmp 1), none⟩,
   ⟨some 4, .mov (.const (.bool false)), none⟩])
 (.seq
  (.seq
   (.reg [⟨some 8, .faddr 0 (.tmp 3), none⟩,
     ⟨some 9, .load false 1 (.tmp 8), none⟩,
     ⟨some 10, .bin .lss .int (.tmp 9) (.const (.int .i64 0)), none⟩,
     ⟨some 11, .mov (.tmp 10), none⟩,
     ⟨some 12, .faddr 0 (.tmp 3), some (11, false)⟩,
     ⟨some 13, .load false 1 (.tmp 12), some (11, false)⟩,
     ⟨some 14, .bin .gtr .int (.tmp 13) (.const (.int .i64 3)), some (11, false)⟩,
     ⟨some 15, .pick (.tmp 11) (.const (.bool true)) (.tmp 14), none⟩,
     ⟨some 16, .mov (.tmp 15), none⟩,
     ⟨some 17, .faddr 0 (.tmp 3), some (16, false)⟩,
     ⟨some 18, .load false 1 (.tmp 17), some (16, false)⟩,
     ⟨some 19, .bin .neq .int (.tmp 18) (.const (.int .i64 1)), some (16, false)⟩,
     ⟨some 20, .mov (.tmp 19), some (16, false)⟩,
     ⟨some 21, .faddr 1 (.tmp 3), some (20, true)⟩,
     ⟨some 22, .load false 1 (.tmp 21), some (20, true)⟩,
     ⟨some 23, .slen false (.tmp 22), some (20, true)⟩,
     ⟨some 24, .bin .gtr .int (.tmp 23) (.const (.int .i64 0)), some (20, true)⟩,
     ⟨some 25, .pick (.tmp 20) (.tmp 24) (.const (.bool false)), some (16, false)⟩,
     ⟨some 26, .pick (.tmp 16) (.const (.bool true)) (.tmp 25), none⟩])
   (.cond (.tmp 26)
    (.seq
     (.reg [⟨some 4, .mov (.const (.bool false)), none⟩])
     (.ret))
    (.skip)))
  (.seq
   (.seq
    (.reg [⟨some 27, .faddr 1 (.tmp 3), none⟩,
      ⟨some 28, .load false 1 (.tmp 27), none⟩,
      ⟨some 29, .slen false (.tmp 28), none⟩,
      ⟨some 30, .mov (.const (.int .i64 0)), none⟩])
    (.block 0
     (.loop ac103_l0)))
   (.seq
    (.reg [⟨some 4, .mov (.const (.bool true)), none⟩])
    (.ret))))
theorem fn103 : Fun Try.prog 103 49 ac103 [.tmp 4] := ⟨mixedR, Try.f103, _, Try.func103, rfl, by decide +kernel, rfl, by kernel_rfl, by kernel_rfl⟩
/- slices.ContainsFunc[[]int,int] -/
def ac104 : AC := .seq
 (.reg [⟨some 4, .mov (.const (.bool false)), none⟩])
 (.seq
  (.reg [⟨some 5, .mov (.tmp 0), none⟩,
    ⟨some 6, .mov (.tmp 1), none⟩,
    ⟨some 7, .call (.func 158) [(.tmp 5), (.tmp 6)], none⟩,
    ⟨some 8, .bin .geq .int (.tmp 7) (.const (.int .i64 0)), none⟩,
    ⟨some 4, .mov (.tmp 8), none⟩])
  (.ret))
theorem fn104 : Fun Try.prog 104 9 ac104 [.tmp 4] := ⟨mixedR, Try.f104, _, Try.func104, rfl, by decide +kernel, rfl, by kernel_rfl, by kernel_rfl⟩
/- glossator/exhaustive.Validate$3 -/
def ac105 : AC := .seq
 (.reg [⟨some 3, .mov (.const (.bool false)), none⟩])
 (.seq
  (.reg [⟨some 4, .load true 1 (.tmp 1), none⟩,
    ⟨some 5, .mov (.tmp 0), none⟩,
    ⟨some 6, .call (.func 106) [(.tmp 4), (.tmp 5)], none⟩,
    ⟨some 7, .un .not (.tmp 6), none⟩,
    ⟨some 3, .mov (.tmp 7), none⟩])
  (.ret))
theorem fn105 : Fun Try.prog 105 8 ac105 [.tmp 3] := ⟨mixedR, Try.f105, _, Try.func105, rfl, by decide +kernel, rfl, by kernel_rfl, by kernel_rfl⟩
/- (glossator/exhaustive.matrix).validDomain -/
def ac106 : AC := .seq
 (.reg [⟨some 2, .box 138 1 (.tmp 0), none⟩,
   ⟨some 4, .mov (.const (.bool false)), none⟩])
 (.seq
  (.reg [⟨some 5, .mov (.tmp 1), none⟩,
    ⟨some 6, .bin .geq .int (.tmp 5) (.const (.int .i64 0)), none⟩,
    ⟨some 7, .mov (.tmp 6), none⟩,
    ⟨some 8, .mov (.tmp 1), some (7, true)⟩,
    ⟨some 9, .faddr 0 (.tmp 2), some (7, true)⟩,
    ⟨some 10, .load false 1 (.tmp 9), some (7, true)⟩,
    ⟨some 11, .slen false (.tmp 10), some (7, true)⟩,
    ⟨some 12, .bin .lss .int (.tmp 8) (.tmp 11), some (7, true)⟩,
    ⟨some 13, .pick (.tmp 7) (.tmp 12) (.const (.bool false)), none⟩,
    ⟨some 4, .mov (.tmp 13), none⟩])
  (.ret))
theorem fn106 : Fun Try.prog 106 14 ac106 [.tmp 4] := ⟨mixedR, Try.f106, _, Try.func106, rfl, by decide +kernel, rfl, by kernel_rfl, by kernel_rfl⟩
/- glossator/exhaustive.patternCount -/
def ac107_l0 : AC := .seq
 (.reg [⟨some 10, .bin .lss .int (.tmp 9) (.tmp 8), none⟩])
 (.seq
  (.cond (.tmp 10)
   (.skip)
   (.exit 0))
  (.seq
   (.block 1
    (.seq
     (.reg [⟨some 11, .iaddr 3 (.tmp 7) (.tmp 9), none⟩,
       ⟨some 12, .load true 3 (.tmp 11), none⟩,
       ⟨some 5, .alloc 127 3 [(.int .i64 0), (.int .i64 0), (.slice none 0 0)], none⟩,
       ⟨none, .store 3 (.tmp 5) (.tmp 12), none⟩])
     (.seq
      (.seq
       (.reg [⟨some 13, .mov (.tmp 3), none⟩,
         ⟨some 14, .bin .gtr .int (.tmp 13) (.const (.int .i64 20)), none⟩])
       (.cond (.tmp 14)
        (.exit 0)
        (.skip)))
      (.reg [⟨some 15, .mov (.tmp 3), none⟩,
        ⟨some 16, .load true 3 (.tmp 5), none⟩,
        ⟨some 17, .call (.func 107) [(.tmp 16)], none⟩,
        ⟨some 18, .bin .add .int (.tmp 15) (.tmp 17), none⟩,
        ⟨some 3, .mov (.tmp 18), none⟩]))))
   (.reg [⟨some 19, .bin .add .int (.tmp 9) (.const (.int .i64 1)), none⟩,
     ⟨some 9, .mov (.tmp 19), none⟩])))
def ac107 : AC := .seq
 (.reg [⟨some 1, .box 127 3 (.tmp 0), none⟩,
   ⟨some 2, .mov (.const (.int .i64 0)), none⟩])
 (.seq
  (.reg [⟨some 3, .mov (.const (.int .i64 1)), none⟩])
  (.seq
   (.seq
    (.reg [⟨some 6, .faddr 2 (.tmp 1), none⟩,
      ⟨some 7, .load false 1 (.tmp 6), none⟩,
      ⟨some 8, .slen false (.tmp 7), none⟩,
      ⟨some 9, .mov (.const (.int .i64 0)), none⟩])
    (.block 0
     (.loop ac107_l0)))
   (.seq
    (.reg [⟨some 20, .mov (.tmp 3), none⟩,
      ⟨some 2, .mov (.tmp 20), none⟩])
    (.ret))))
theorem fn107 : Fun Try.prog 107 21 ac107 [.tmp 2] := ⟨mixedR, Try.f107, _, Try.func107, rfl, by decide +kernel, rfl, by kernel_rfl, by kernel_rfl⟩
/- (glossator/exhaustive.matrix).conforms -/
def ac108_l0 : AC := .seq
 (.reg [⟨some 78, .bin .lss .int (.tmp 77) (.tmp 76), none⟩])
 (.seq
  (.cond (.tmp 78)
   (.skip)
   (.exit 1))
  (.seq
   (.block 2
    (.seq
     (.reg [⟨some 79, .mov (.tmp 77), none⟩,
       ⟨some 80, .iaddr 3 (.tmp 75) (.tmp 77), none⟩,
       ⟨some 81, .load true 3 (.tmp 80), none⟩,
       ⟨some 10, .alloc 127 3 [(.int .i64 0), (.int .i64 0), (.slice none 0 0)], none⟩,
       ⟨some 9, .mov (.tmp 79), none⟩,
       ⟨none, .store 3 (.tmp 10) (.tmp 81), none⟩])
     (.seq
      (.dreg [⟨some 82, .load true 1 (.tmp 3), none⟩,
        ⟨some 83, .load true 3 (.tmp 10), none⟩,
        ⟨some 84, .mov (.tmp 8), none⟩,
        ⟨some 85, .nilc (.tmp 84), none⟩,
        ⟨some 86, .faddr 1 (.tmp 85), none⟩,
        ⟨some 87, .load false 1 (.tmp 86), none⟩,
        ⟨some 88, .mov (.tmp 9), none⟩,
        ⟨some 89, .iaddr 1 (.tmp 87) (.tmp 88), none⟩,
        ⟨some 90, .load false 1 (.tmp 89), none⟩,
        ⟨some 91, .call (.func 108) [(.tmp 82), (.tmp 83), (.tmp 90)], none⟩,
        ⟨some 92, .un .not (.tmp 91), none⟩]
        [[], [], [], [2], [3], [4], [], [5, 6], [7], [0, 1, 8], [9]]
        [[3], [10], [8], [84], [85], [86], [9], [87, 88], [89], [82, 83, 90], [91]])
      (.cond (.tmp 92)
       (.seq
        (.reg [⟨some 6, .mov (.const (.bool false)), none⟩])
        (.ret))
       (.skip)))))
   (.reg [⟨some 93, .bin .add .int (.tmp 77) (.const (.int .i64 1)), none⟩,
     ⟨some 77, .mov (.tmp 93), none⟩])))
def ac108 : AC := .seq
 (.reg [⟨some 3, .box 138 1 (.tmp 0), none⟩,
   ⟨some 4, .box 127 3 (.tmp 1), none⟩,
   ⟨some 6, .mov (.const (.bool false)), none⟩])
 (.seq
  (.reg [⟨some 11, .faddr 0 (.tmp 3), none⟩,
    ⟨some 12, .load false 1 (.tmp 11), none⟩,
    ⟨some 13, .mov (.tmp 2), none⟩,
    ⟨some 14, .iaddr 2 (.tmp 12) (.tmp 13), none⟩,
    ⟨some 15, .load true 2 (.tmp 14), none⟩,
    ⟨some 7, .alloc 132 2 [(.int .i64 0), (.slice none 0 0)], none⟩,
    ⟨none, .store 2 (.tmp 7) (.tmp 15), none⟩])
  (.seq
   (.seq
    (.reg [⟨some 16, .faddr 0 (.tmp 4), none⟩,
      ⟨some 17, .load false 1 (.tmp 16), none⟩,
      ⟨some 18, .bin .eql .int (.tmp 17) (.const (.int .i64 0)), none⟩])
    (.cond (.tmp 18)
     (.seq
      (.reg [⟨some 19, .faddr 1 (.tmp 4), none⟩,
        ⟨some 20, .load false 1 (.tmp 19), none⟩,
        ⟨some 21, .bin .eql .int (.tmp 20) (.const (.int .i64 0)), none⟩,
        ⟨some 22, .mov (.tmp 21), none⟩,
        ⟨some 23, .faddr 2 (.tmp 4), some (22, true)⟩,
        ⟨some 24, .load false 1 (.tmp 23), some (22, true)⟩,
        ⟨some 25, .slen false (.tmp 24), some (22, true)⟩,
        ⟨some 26, .bin .eql .int (.tmp 25) (.const (.int .i64 0)), some (22, true)⟩,
        ⟨some 27, .pick (.tmp 22) (.tmp 26) (.const (.bool false)), none⟩,
        ⟨some 6, .mov (.tmp 27), none⟩])
      (.ret))
     (.skip)))
   (.seq
    (.seq
     (.reg [⟨some 28, .faddr 0 (.tmp 4), none⟩,
       ⟨some 29, .load false 1 (.tmp 28), none⟩,
       ⟨some 30, .faddr 0 (.tmp 7), none⟩,
       ⟨some 31, .load false 1 (.tmp 30), none⟩,
       ⟨some 32, .bin .neq .int (.tmp 29) (.tmp 31), none⟩])
     (.cond (.tmp 32)
      (.seq
       (.reg [⟨some 6, .mov (.const (.bool false)), none⟩])
       (.ret))
      (.skip)))
    (.seq
     (.seq
      (.reg [⟨some 33, .faddr 0 (.tmp 4), none⟩,
        ⟨some 34, .load false 1 (.tmp 33), none⟩])
      (.block 0
       (.seq
        (.reg [⟨some 36, .bin .eql .int (.tmp 34) (.const (.int .i64 2)), none⟩,
          ⟨some 35, .mov (.tmp 36), none⟩])
        (.cond (.tmp 35)
         (.seq
          (.reg [⟨some 37, .faddr 2 (.tmp 4), none⟩,
            ⟨some 38, .load false 1 (.tmp 37), none⟩,
            ⟨some 39, .slen false (.tmp 38), none⟩,
            ⟨some 40, .bin .eql .int (.tmp 39) (.const (.int .i64 0)), none⟩,
            ⟨some 6, .mov (.tmp 40), none⟩])
          (.ret))
         (.seq
          (.reg [⟨some 42, .bin .eql .int (.tmp 34) (.const (.int .i64 3)), none⟩,
            ⟨some 41, .mov (.tmp 42), none⟩])
          (.cond (.tmp 41)
           (.seq
            (.reg [⟨some 43, .faddr 1 (.tmp 4), none⟩,
              ⟨some 44, .load false 1 (.tmp 43), none⟩,
              ⟨some 45, .bin .eql .int (.tmp 44) (.const (.int .i64 0)), none⟩,
              ⟨some 46, .mov (.tmp 45), none⟩,
              ⟨some 47, .faddr 1 (.tmp 4), some (46, false)⟩,
              ⟨some 48, .load false 1 (.tmp 47), some (46, false)⟩,
              ⟨some 49, .bin .eql .int (.tmp 48) (.const (.int .i64 1)), some (46, false)⟩,
              ⟨some 50, .pick (.tmp 46) (.const (.bool true)) (.tmp 49), none⟩,
              ⟨some 51, .mov (.tmp 50), none⟩,
              ⟨some 52, .faddr 2 (.tmp 4), some (51, true)⟩,
              ⟨some 53, .load false 1 (.tmp 52), some (51, true)⟩,
              ⟨some 54, .slen false (.tmp 53), some (51, true)⟩,
              ⟨some 55, .bin .eql .int (.tmp 54) (.const (.int .i64 0)), some (51, true)⟩,
              ⟨some 56, .pick (.tmp 51) (.tmp 55) (.const (.bool false)), none⟩,
              ⟨some 6, .mov (.tmp 56), none⟩])
            (.ret))
           (.skip)))))))
     (.seq
      (.reg [⟨some 57, .load true 2 (.tmp 7), none⟩,
        ⟨some 58, .faddr 1 (.tmp 4), none⟩,
        ⟨some 59, .load false 1 (.tmp 58), none⟩,
        ⟨some 60, .call (.func 159) [(.tmp 57), (.tmp 59)], none⟩,
        ⟨some 8, .mov (.tmp 60), none⟩])
      (.seq
       (.seq
        (.dreg [⟨some 61, .mov (.tmp 8), none⟩,
          ⟨some 62, .bin .eql .ptr (.tmp 61) (.const (.pointer none)), none⟩,
          ⟨some 63, .mov (.tmp 62), none⟩,
          ⟨some 64, .mov (.tmp 8), some (63, false)⟩,
          ⟨some 65, .nilc (.tmp 64), some (63, false)⟩,
          ⟨some 66, .faddr 1 (.tmp 65), some (63, false)⟩,
          ⟨some 67, .load false 1 (.tmp 66), some (63, false)⟩,
          ⟨some 68, .slen false (.tmp 67), some (63, false)⟩,
          ⟨some 69, .faddr 2 (.tmp 4), some (63, false)⟩,
          ⟨some 70, .load false 1 (.tmp 69), some (63, false)⟩,
          ⟨some 71, .slen false (.tmp 70), some (63, false)⟩,
          ⟨some 72, .bin .neq .int (.tmp 68) (.tmp 71), some (63, false)⟩,
          ⟨some 73, .pick (.tmp 63) (.const (.bool true)) (.tmp 72), none⟩]
          [[], [0], [1], [2], [3, 2], [4, 2], [5, 2], [6, 2], [2], [8, 2], [9, 2], [7, 10, 2], [2, 11]]
          [[8], [61], [62], [8, 63], [64, 63], [65, 63], [66, 63], [67, 63], [4, 63], [69, 63], [70, 63], [68, 71, 63], [63, 72]])
        (.cond (.tmp 73)
         (.seq
          (.reg [⟨some 6, .mov (.const (.bool false)), none⟩])
          (.ret))
         (.skip)))
       (.seq
        (.seq
         (.reg [⟨some 74, .faddr 2 (.tmp 4), none⟩,
           ⟨some 75, .load false 1 (.tmp 74), none⟩,
           ⟨some 76, .slen false (.tmp 75), none⟩,
           ⟨some 77, .mov (.const (.int .i64 0)), none⟩])
         (.block 1
          (.loop ac108_l0)))
        (.seq
         (.reg [⟨some 6, .mov (.const (.bool true)), none⟩])
         (.ret)))))))))
theorem fn108 : Fun Try.prog 108 94 ac108 [.tmp 6] := ⟨mixedR, Try.f108, _, Try.func108, rfl, by decide +kernel, rfl, by kernel_rfl, by kernel_rfl⟩
/- (glossator/exhaustive.matrix).missing -/
def ac109_l0 : AC := .seq
 (.reg [⟨some 59, .bin .lss .int (.tmp 58) (.tmp 57), none⟩])
 (.seq
  (.cond (.tmp 59)
   (.skip)
   (.exit 0))
  (.seq
   (.block 1
    (.seq
     (.reg [⟨some 60, .iaddr 3 (.tmp 56) (.tmp 58), none⟩,
       ⟨some 61, .load true 3 (.tmp 60), none⟩,
       ⟨some 15, .alloc 127 3 [(.int .i64 0), (.int .i64 0), (.slice none 0 0)], none⟩,
       ⟨none, .store 3 (.tmp 15) (.tmp 61), none⟩])
     (.seq
      (.reg [⟨some 62, .load true 2 (.tmp 8), none⟩,
        ⟨some 63, .load true 3 (.tmp 15), none⟩,
        ⟨some 64, .call (.func 163) [(.tmp 62), (.tmp 63)], none⟩,
        ⟨some 16, .mov (.tmp 64), none⟩])
      (.seq
       (.reg [⟨some 65, .mov (.tmp 16), none⟩,
         ⟨some 66, .slen false (.tmp 65), none⟩,
         ⟨some 17, .mov (.tmp 66), none⟩])
       (.seq
        (.dreg [⟨some 68, .load true 1 (.tmp 3), none⟩,
          ⟨some 69, .mov (.tmp 16), none⟩,
          ⟨some 70, .mov (.tmp 1), none⟩,
          ⟨some 71, .slice 1 (.tmp 70) (some (.const (.int .i64 1))) none none, none⟩,
          ⟨some 72, .bslice 38 1 [(.slice none 0 0)] 2 [(0, (.tmp 69)), (1, (.tmp 71))], none⟩,
          ⟨some 73, .call (.func 164) [(.tmp 72)], none⟩,
          ⟨some 74, .mov (.tmp 2), none⟩,
          ⟨some 75, .faddr 0 (.tmp 15), none⟩,
          ⟨some 76, .load false 1 (.tmp 75), none⟩,
          ⟨some 77, .faddr 1 (.tmp 15), none⟩,
          ⟨some 78, .load false 1 (.tmp 77), none⟩,
          ⟨some 79, .mov (.tmp 17), none⟩,
          ⟨some 80, .call (.func 165) [(.tmp 74), (.tmp 76), (.tmp 78), (.tmp 79)], none⟩,
          ⟨some 81, .call (.func 109) [(.tmp 68), (.tmp 73), (.tmp 80)], none⟩,
          ⟨some 67, .mov (.tmp 81), none⟩,
          ⟨some 82, .ext (.tmp 67) 0, none⟩,
          ⟨some 83, .ext (.tmp 67) 1, none⟩,
          ⟨some 18, .mov (.tmp 82), none⟩,
          ⟨some 19, .mov (.tmp 83), none⟩]
          [[], [], [], [2], [1, 3], [4], [], [], [7], [], [9], [], [6, 8, 10, 11, 5], [0, 5, 12, 12], [13], [14], [14], [15, 13, 0, 1, 2, 3, 4, 5, 6, 7, 8, 9, 10, 11, 12, 13, 14, 15], [16, 17, 0, 1, 2, 3, 4, 5, 6, 7, 8, 9, 10, 11, 12, 13, 14, 15, 16, 17]]
          [[3], [16], [1], [70], [69, 71], [72], [2], [15], [75], [15], [77], [17], [74, 76, 78, 79], [68, 73, 80], [81], [67], [67], [82], [83]])
        (.seq
         (.reg [⟨some 84, .mov (.tmp 19), none⟩])
         (.cond (.tmp 84)
          (.seq
           (.dreg [⟨some 85, .faddr 0 (.tmp 15), none⟩,
             ⟨some 86, .load false 1 (.tmp 85), none⟩,
             ⟨some 87, .faddr 1 (.tmp 15), none⟩,
             ⟨some 88, .load false 1 (.tmp 87), none⟩,
             ⟨some 89, .mov (.tmp 18), none⟩,
             ⟨some 90, .mov (.tmp 17), none⟩,
             ⟨some 91, .mov (.tmp 17), none⟩,
             ⟨some 92, .slice 3 (.tmp 89) none (some (.tmp 90)) (some (.tmp 91)), none⟩,
             ⟨some 93, .build [(.int .i64 0), (.int .i64 0), (.slice none 0 0)] [(0, 1), (1, 1), (2, 1)] [(0, (.tmp 86)), (1, (.tmp 88)), (2, (.tmp 92))], none⟩,
             ⟨some 94, .bslice 127 3 [(.int .i64 0), (.int .i64 0), (.slice none 0 0)] 1 [(0, (.tmp 93))], none⟩,
             ⟨some 95, .mov (.tmp 18), none⟩,
             ⟨some 96, .mov (.tmp 17), none⟩,
             ⟨some 97, .slice 3 (.tmp 95) (some (.tmp 96)) none none, none⟩,
             ⟨some 98, .app 127 3 (.tmp 94) (.tmp 97), none⟩,
             ⟨some 6, .mov (.tmp 98), none⟩,
             ⟨some 7, .mov (.const (.bool true)), none⟩]
             [[], [0], [], [2], [], [], [], [4, 5, 6], [1, 3, 7], [8], [], [], [10, 11], [9, 12], [13, 13, 0, 1, 2, 3, 4, 5, 6, 7, 8, 9, 10, 11, 12, 13], [14, 0, 1, 2, 3, 4, 5, 6, 7, 8, 9, 10, 11, 12, 13, 14]]
             [[15], [85], [15], [87], [18], [17], [17], [89, 90, 91], [86, 88, 92], [93], [18], [17], [95, 96], [94, 97], [98], []])
           (.ret))
          (.skip))))))))
   (.reg [⟨some 99, .bin .add .int (.tmp 58) (.const (.int .i64 1)), none⟩,
     ⟨some 58, .mov (.tmp 99), none⟩])))
def ac109 : AC := .seq
 (.reg [⟨some 3, .box 138 1 (.tmp 0), none⟩,
   ⟨some 6, .mov (.const (.slice none 0 0)), none⟩,
   ⟨some 7, .mov (.const (.bool false)), none⟩])
 (.seq
  (.seq
   (.reg [⟨some 20, .mov (.tmp 1), none⟩,
     ⟨some 21, .slen false (.tmp 20), none⟩,
     ⟨some 22, .bin .eql .int (.tmp 21) (.const (.int .i64 0)), none⟩])
   (.cond (.tmp 22)
    (.seq
     (.reg [⟨some 23, .mov (.tmp 2), none⟩,
       ⟨some 24, .slen false (.tmp 23), none⟩,
       ⟨some 25, .bin .eql .int (.tmp 24) (.const (.int .i64 0)), none⟩,
       ⟨some 6, .mov (.const (.slice none 0 0)), none⟩,
       ⟨some 7, .mov (.tmp 25), none⟩])
     (.ret))
    (.skip)))
  (.seq
   (.dreg [⟨some 26, .faddr 0 (.tmp 3), none⟩,
     ⟨some 27, .load false 1 (.tmp 26), none⟩,
     ⟨some 28, .mov (.tmp 1), none⟩,
     ⟨some 29, .iaddr 1 (.tmp 28) (.const (.int .i64 0)), none⟩,
     ⟨some 30, .load false 1 (.tmp 29), none⟩,
     ⟨some 31, .iaddr 2 (.tmp 27) (.tmp 30), none⟩,
     ⟨some 32, .load true 2 (.tmp 31), none⟩,
     ⟨some 8, .alloc 132 2 [(.int .i64 0), (.slice none 0 0)], none⟩,
     ⟨none, .store 2 (.tmp 8) (.tmp 32), none⟩]
     [[], [0], [], [2], [3], [1, 4], [5], [], [7, 6, 0, 1, 2, 3, 4, 5, 6, 7]]
     [[3], [26], [1], [28], [29], [27, 30], [31], [], [8, 32]])
   (.seq
    (.reg [⟨some 33, .mov (.tmp 2), none⟩,
      ⟨some 34, .call (.func 160) [(.tmp 33)], none⟩,
      ⟨some 9, .mov (.tmp 34), none⟩])
    (.seq
     (.seq
      (.reg [⟨some 36, .load true 2 (.tmp 8), none⟩,
        ⟨some 37, .mov (.tmp 9), none⟩,
        ⟨some 38, .call (.func 161) [(.tmp 36), (.tmp 37)], none⟩,
        ⟨some 35, .mov (.tmp 38), none⟩,
        ⟨some 39, .ext (.tmp 35) 0, none⟩,
        ⟨some 40, .ext (.tmp 35) 1, none⟩,
        ⟨some 10, .alloc 127 3 [(.int .i64 0), (.int .i64 0), (.slice none 0 0)], none⟩,
        ⟨none, .store 3 (.tmp 10) (.tmp 39), none⟩,
        ⟨some 11, .mov (.tmp 40), none⟩])
      (.seq
       (.reg [⟨some 41, .mov (.tmp 11), none⟩])
       (.cond (.tmp 41)
        (.seq
         (.dreg [⟨some 43, .load true 1 (.tmp 3), none⟩,
           ⟨some 44, .mov (.tmp 1), none⟩,
           ⟨some 45, .slice 1 (.tmp 44) (some (.const (.int .i64 1))) none none, none⟩,
           ⟨some 46, .mov (.tmp 2), none⟩,
           ⟨some 47, .call (.func 162) [(.tmp 46)], none⟩,
           ⟨some 48, .call (.func 109) [(.tmp 43), (.tmp 45), (.tmp 47)], none⟩,
           ⟨some 42, .mov (.tmp 48), none⟩,
           ⟨some 49, .ext (.tmp 42) 0, none⟩,
           ⟨some 50, .ext (.tmp 42) 1, none⟩,
           ⟨some 12, .mov (.tmp 49), none⟩,
           ⟨some 13, .mov (.tmp 50), none⟩]
           [[], [], [1], [], [3], [0, 2, 4, 4], [5], [6], [6], [7, 5, 0, 1, 2, 3, 4, 5, 6, 7], [8, 9, 0, 1, 2, 3, 4, 5, 6, 7, 8, 9]]
           [[3], [1], [44], [2], [46], [43, 45, 47], [48], [42], [42], [49], [50]])
         (.seq
          (.reg [⟨some 51, .mov (.tmp 13), none⟩])
          (.cond (.tmp 51)
           (.seq
            (.reg [⟨some 52, .load true 3 (.tmp 10), none⟩,
              ⟨some 53, .bslice 127 3 [(.int .i64 0), (.int .i64 0), (.slice none 0 0)] 1 [(0, (.tmp 52))], none⟩,
              ⟨some 54, .mov (.tmp 12), none⟩,
              ⟨some 55, .app 127 3 (.tmp 53) (.tmp 54), none⟩,
              ⟨some 6, .mov (.tmp 55), none⟩,
              ⟨some 7, .mov (.const (.bool true)), none⟩])
            (.ret))
           (.skip))))
        (.skip))))
     (.seq
      (.seq
       (.reg [⟨some 56, .mov (.tmp 9), none⟩,
         ⟨some 57, .slen false (.tmp 56), none⟩,
         ⟨some 58, .mov (.const (.int .i64 0)), none⟩])
       (.block 0
        (.loop ac109_l0)))
      (.seq
       (.reg [⟨some 6, .mov (.const (.slice none 0 0)), none⟩,
         ⟨some 7, .mov (.const (.bool false)), none⟩])
       (.ret)))))))
theorem fn109 : Fun Try.prog 109 100 ac109 [.tmp 6, .tmp 7] := ⟨mixedR, Try.f109, _, Try.func109, rfl, by decide +kernel, rfl, by kernel_rfl, by kernel_rfl⟩
/- (glossator/exhaustive.matrix).useful -/
def ac110 : AC := .seq
 (.reg [⟨some 4, .box 138 1 (.tmp 0), none⟩,
   ⟨some 5, .box 38 1 (.tmp 1), none⟩,
   ⟨some 6, .box 62 1 (.tmp 2), none⟩,
   ⟨some 7, .box 64 1 (.tmp 3), none⟩,
   ⟨some 8, .mov (.const (.bool false)), none⟩])
 (.seq
  (.seq
   (.reg [⟨some 15, .load false 1 (.tmp 5), none⟩,
     ⟨some 16, .slen false (.tmp 15), none⟩,
     ⟨some 17, .bin .eql .int (.tmp 16) (.const (.int .i64 0)), none⟩])
   (.cond (.tmp 17)
    (.seq
     (.reg [⟨some 18, .load false 1 (.tmp 6), none⟩,
       ⟨some 19, .slen false (.tmp 18), none⟩,
       ⟨some 20, .bin .eql .int (.tmp 19) (.const (.int .i64 0)), none⟩,
       ⟨some 8, .mov (.tmp 20), none⟩])
     (.ret))
    (.skip)))
  (.seq
   (.dreg [⟨some 21, .faddr 0 (.tmp 4), none⟩,
     ⟨some 22, .load false 1 (.tmp 21), none⟩,
     ⟨some 23, .load false 1 (.tmp 5), none⟩,
     ⟨some 24, .iaddr 1 (.tmp 23) (.const (.int .i64 0)), none⟩,
     ⟨some 25, .load false 1 (.tmp 24), none⟩,
     ⟨some 26, .iaddr 2 (.tmp 22) (.tmp 25), none⟩,
     ⟨some 27, .load true 2 (.tmp 26), none⟩,
     ⟨some 28, .load false 1 (.tmp 7), none⟩,
     ⟨some 29, .iaddr 3 (.tmp 28) (.const (.int .i64 0)), none⟩,
     ⟨some 30, .load true 3 (.tmp 29), none⟩,
     ⟨some 9, .alloc 132 2 [(.int .i64 0), (.slice none 0 0)], none⟩,
     ⟨some 10, .alloc 127 3 [(.int .i64 0), (.int .i64 0), (.slice none 0 0)], none⟩,
     ⟨none, .store 2 (.tmp 9) (.tmp 27), none⟩,
     ⟨none, .store 3 (.tmp 10) (.tmp 30), none⟩]
     [[], [0], [], [2], [3], [1, 4], [5], [], [7], [8], [], [], [10, 6, 0, 1, 2, 3, 4, 5, 6, 10, 11], [11, 9, 12, 0, 1, 2, 3, 4, 5, 6, 7, 8, 9, 10, 11, 12]]
     [[4], [21], [5], [23], [24], [22, 25], [26], [7], [28], [29], [], [], [9, 27], [10, 30]])
   (.seq
    (.seq
     (.reg [⟨some 31, .faddr 0 (.tmp 10), none⟩,
       ⟨some 32, .load false 1 (.tmp 31), none⟩,
       ⟨some 33, .bin .neq .int (.tmp 32) (.const (.int .i64 0)), none⟩])
     (.cond (.tmp 33)
      (.seq
       (.reg [⟨some 34, .load true 2 (.tmp 9), none⟩,
         ⟨some 35, .load true 3 (.tmp 10), none⟩,
         ⟨some 36, .call (.func 163) [(.tmp 34), (.tmp 35)], none⟩,
         ⟨some 11, .mov (.tmp 36), none⟩])
       (.seq
        (.dreg [⟨some 37, .load true 1 (.tmp 4), none⟩,
          ⟨some 38, .mov (.tmp 11), none⟩,
          ⟨some 39, .load false 1 (.tmp 5), none⟩,
          ⟨some 40, .slice 1 (.tmp 39) (some (.const (.int .i64 1))) none none, none⟩,
          ⟨some 41, .bslice 38 1 [(.slice none 0 0)] 2 [(0, (.tmp 38)), (1, (.tmp 40))], none⟩,
          ⟨some 42, .call (.func 164) [(.tmp 41)], none⟩,
          ⟨some 43, .load false 1 (.tmp 6), none⟩,
          ⟨some 44, .faddr 0 (.tmp 10), none⟩,
          ⟨some 45, .load false 1 (.tmp 44), none⟩,
          ⟨some 46, .faddr 1 (.tmp 10), none⟩,
          ⟨some 47, .load false 1 (.tmp 46), none⟩,
          ⟨some 48, .mov (.tmp 11), none⟩,
          ⟨some 49, .slen false (.tmp 48), none⟩,
          ⟨some 50, .call (.func 165) [(.tmp 43), (.tmp 45), (.tmp 47), (.tmp 49)], none⟩,
          ⟨some 51, .faddr 2 (.tmp 10), none⟩,
          ⟨some 52, .load false 1 (.tmp 51), none⟩,
          ⟨some 53, .load false 1 (.tmp 7), none⟩,
          ⟨some 54, .slice 3 (.tmp 53) (some (.const (.int .i64 1))) none none, none⟩,
          ⟨some 55, .bslice 64 1 [(.slice none 0 0)] 2 [(0, (.tmp 52)), (1, (.tmp 54))], none⟩,
          ⟨some 56, .call (.func 166) [(.tmp 55)], none⟩,
          ⟨some 57, .call (.func 110) [(.tmp 37), (.tmp 42), (.tmp 50), (.tmp 56)], none⟩,
          ⟨some 8, .mov (.tmp 57), none⟩]
          [[], [], [], [2], [1, 3], [4], [], [], [7], [], [9], [], [11], [6, 8, 10, 12, 5], [], [14], [], [16], [15, 17], [18, 13], [0, 5, 13, 19, 19], [20, 20, 0, 1, 2, 3, 4, 5, 6, 7, 8, 9, 10, 11, 12, 13, 14, 15, 16, 17, 18, 19, 20]]
          [[4], [11], [5], [39], [38, 40], [41], [6], [10], [44], [10], [46], [11], [48], [43, 45, 47, 49], [10], [51], [7], [53], [52, 54], [55], [37, 42, 50, 56], [57]])
        (.ret)))
      (.skip)))
    (.seq
     (.reg [⟨some 58, .load false 1 (.tmp 6), none⟩,
       ⟨some 59, .call (.func 160) [(.tmp 58)], none⟩,
       ⟨some 12, .mov (.tmp 59), none⟩])
     (.seq
      (.seq
       (.reg [⟨some 61, .load true 2 (.tmp 9), none⟩,
         ⟨some 62, .mov (.tmp 12), none⟩,
         ⟨some 63, .call (.func 161) [(.tmp 61), (.tmp 62)], none⟩,
         ⟨some 60, .mov (.tmp 63), none⟩,
         ⟨some 64, .ext (.tmp 60) 0, none⟩,
         ⟨some 65, .ext (.tmp 60) 1, none⟩,
         ⟨some 13, .alloc 127 3 [(.int .i64 0), (.int .i64 0), (.slice none 0 0)], none⟩,
         ⟨none, .store 3 (.tmp 13) (.tmp 64), none⟩,
         ⟨some 14, .mov (.tmp 65), none⟩])
       (.seq
        (.dreg [⟨some 66, .mov (.tmp 14), none⟩,
          ⟨some 67, .mov (.tmp 66), none⟩,
          ⟨some 68, .load true 1 (.tmp 4), some (67, true)⟩,
          ⟨some 69, .load false 1 (.tmp 5), some (67, true)⟩,
          ⟨some 70, .slice 1 (.tmp 69) (some (.const (.int .i64 1))) none none, some (67, true)⟩,
          ⟨some 71, .load false 1 (.tmp 6), some (67, true)⟩,
          ⟨some 72, .call (.func 162) [(.tmp 71)], some (67, true)⟩,
          ⟨some 73, .load false 1 (.tmp 7), some (67, true)⟩,
          ⟨some 74, .slice 3 (.tmp 73) (some (.const (.int .i64 1))) none none, some (67, true)⟩,
          ⟨some 75, .call (.func 110) [(.tmp 68), (.tmp 70), (.tmp 72), (.tmp 74)], some (67, true)⟩,
          ⟨some 76, .pick (.tmp 67) (.tmp 75) (.const (.bool false)), none⟩]
          [[], [0], [1], [1], [3, 1], [1], [5, 1, 1], [1], [7, 1], [2, 4, 6, 8, 6, 1], [1, 9]]
          [[14], [66], [4, 67], [5, 67], [69, 67], [6, 67], [71, 67], [7, 67], [73, 67], [68, 70, 72, 74, 67], [67, 75]])
        (.cond (.tmp 76)
         (.seq
          (.reg [⟨some 8, .mov (.const (.bool true)), none⟩])
          (.ret))
         (.skip))))
      (.seq
       (.reg [⟨some 77, .mov (.tmp 12), none⟩,
         ⟨some 78, .mkfn 168 [(.tmp 9), (.tmp 4), (.tmp 5), (.tmp 6), (.tmp 7)], none⟩,
         ⟨some 79, .call (.func 167) [(.tmp 77), (.tmp 78)], none⟩,
         ⟨some 8, .mov (.tmp 79), none⟩])
       (.ret)))))))
theorem fn110 : Fun Try.prog 110 80 ac110 [.tmp 8] := ⟨mixedR, Try.f110, _, Try.func110, rfl, by decide +kernel, rfl, by kernel_rfl, by kernel_rfl⟩
/- slices.IndexFunc[[][]glossator/api.Pattern,[]glossator/api.Pattern] -/
def ac115_l0 : AC := .seq
 (.reg [⟨some 9, .bin .lss .int (.tmp 8) (.tmp 7), none⟩])
 (.seq
  (.cond (.tmp 9)
   (.skip)
   (.exit 0))
  (.seq
   (.block 1
    (.seq
     (.reg [⟨some 10, .mov (.tmp 8), none⟩,
       ⟨some 5, .mov (.tmp 10), none⟩])
     (.seq
      (.reg [⟨some 11, .mov (.tmp 1), none⟩,
        ⟨some 12, .mov (.tmp 0), none⟩,
        ⟨some 13, .mov (.tmp 5), none⟩,
        ⟨some 14, .iaddr 1 (.tmp 12) (.tmp 13), none⟩,
        ⟨some 15, .load false 1 (.tmp 14), none⟩,
        ⟨some 16, .call (.tmp 11) [(.tmp 15)], none⟩])
      (.cond (.tmp 16)
       (.seq
        (.reg [⟨some 17, .mov (.tmp 5), none⟩,
          ⟨some 4, .mov (.tmp 17), none⟩])
        (.ret))
       (.skip)))))
   (.reg [⟨some 18, .bin .add .int (.tmp 8) (.const (.int .i64 1)), none⟩,
     ⟨some 8, .mov (.tmp 18), none⟩])))
def ac115 : AC := .seq
 (.reg [⟨some 4, .mov (.const (.int .i64 0)), none⟩])
 (.seq
  (.seq
   (.reg [⟨some 6, .mov (.tmp 0), none⟩,
     ⟨some 7, .slen false (.tmp 6), none⟩,
     ⟨some 8, .mov (.const (.int .i64 0)), none⟩])
   (.block 0
    (.loop ac115_l0)))
  (.seq
   (.reg [⟨some 4, .mov (.const (.int .i64 (-1))), none⟩])
   (.ret)))
theorem fn115 : Fun Try.prog 115 19 ac115 [.tmp 4] := ⟨mixedR, Try.f115, _, Try.func115, rfl, by decide +kernel, rfl, by kernel_rfl, by kernel_rfl⟩
/- glossator/glossatorkeep2.pattern -/
def ac117 : AC := .seq
 (.reg [⟨some 6, .alloc 127 3 [(.int .i64 0), (.int .i64 0), (.slice none 0 0)], none⟩])
 (.seq
  (.reg [⟨some 7, .mov (.tmp 0), none⟩,
    ⟨some 8, .mov (.tmp 1), none⟩,
    ⟨some 9, .mov (.tmp 2), none⟩,
    ⟨some 10, .build [(.int .i64 0), (.int .i64 0), (.slice none 0 0)] [(0, 1), (1, 1), (2, 1)] [(0, (.tmp 7)), (1, (.tmp 8)), (2, (.tmp 9))], none⟩,
    ⟨none, .store 3 (.tmp 6) (.tmp 10), none⟩])
  (.ret))
theorem fn117 : Fun Try.prog 117 11 ac117 [.cell 6 3 true] := ⟨mixedR, Try.f117, _, Try.func117, rfl, by decide +kernel, rfl, by kernel_rfl, by kernel_rfl⟩
/- glossator/glossatorkeep2.listDomains -/
def ac118 : AC := .seq
 (.reg [⟨some 0, .mov (.const (.slice none 0 0)), none⟩])
 (.seq
  (.reg [⟨some 1, .build [(.int .i64 0), (.slice none 0 0)] [(0, 1), (1, 1)] [(0, (.const (.int .i64 5)))], none⟩,
    ⟨some 2, .bslice 3 1 [(.int .i64 0)] 2 [(0, (.const (.int .i64 1))), (1, (.const (.int .i64 0)))], none⟩,
    ⟨some 3, .build [(.int .i64 0), (.slice none 0 0)] [(0, 1), (1, 1)] [(0, (.const (.int .i64 6))), (1, (.tmp 2))], none⟩,
    ⟨some 4, .bslice 135 2 [(.int .i64 0), (.slice none 0 0)] 2 [(0, (.tmp 1)), (1, (.tmp 3))], none⟩,
    ⟨some 5, .build [(.int .i64 0), (.slice none 0 0)] [(0, 1), (1, 1)] [(0, (.const (.int .i64 1))), (1, (.tmp 4))], none⟩,
    ⟨some 6, .build [(.int .i64 0), (.slice none 0 0)] [(0, 1), (1, 1)] [(0, (.const (.int .i64 3)))], none⟩,
    ⟨some 7, .build [(.int .i64 0), (.slice none 0 0)] [(0, 1), (1, 1)] [(0, (.const (.int .i64 2)))], none⟩,
    ⟨some 8, .bslice 132 2 [(.int .i64 0), (.slice none 0 0)] 3 [(0, (.tmp 5)), (1, (.tmp 6)), (2, (.tmp 7))], none⟩,
    ⟨some 0, .mov (.tmp 8), none⟩])
  (.ret))
theorem fn118 : Fun Try.prog 118 9 ac118 [.tmp 0] := ⟨mixedR, Try.f118, _, Try.func118, rfl, by decide +kernel, rfl, by kernel_rfl, by kernel_rfl⟩
/- slices.Index[[]int,int] -/
def ac119_l0 : AC := .seq
 (.reg [⟨some 9, .bin .lss .int (.tmp 8) (.tmp 7), none⟩])
 (.seq
  (.cond (.tmp 9)
   (.skip)
   (.exit 0))
  (.seq
   (.block 1
    (.seq
     (.reg [⟨some 10, .mov (.tmp 8), none⟩,
       ⟨some 5, .mov (.tmp 10), none⟩])
     (.seq
      (.reg [⟨some 11, .mov (.tmp 1), none⟩,
        ⟨some 12, .mov (.tmp 0), none⟩,
        ⟨some 13, .mov (.tmp 5), none⟩,
        ⟨some 14, .iaddr 1 (.tmp 12) (.tmp 13), none⟩,
        ⟨some 15, .load false 1 (.tmp 14), none⟩,
        ⟨some 16, .bin .eql .int (.tmp 11) (.tmp 15), none⟩])
      (.cond (.tmp 16)
       (.seq
        (.reg [⟨some 17, .mov (.tmp 5), none⟩,
          ⟨some 4, .mov (.tmp 17), none⟩])
        (.ret))
       (.skip)))))
   (.reg [⟨some 18, .bin .add .int (.tmp 8) (.const (.int .i64 1)), none⟩,
     ⟨some 8, .mov (.tmp 18), none⟩])))
def ac119 : AC := .seq
 (.reg [⟨some 4, .mov (.const (.int .i64 0)), none⟩])
 (.seq
  (.seq
   (.reg [⟨some 6, .mov (.tmp 0), none⟩,
     ⟨some 7, .slen false (.tmp 6), none⟩,
     ⟨some 8, .mov (.const (.int .i64 0)), none⟩])
   (.block 0
    (.loop ac119_l0)))
  (.seq
   (.reg [⟨some 4, .mov (.const (.int .i64 (-1))), none⟩])
   (.ret)))
theorem fn119 : Fun Try.prog 119 19 ac119 [.tmp 4] := ⟨mixedR, Try.f119, _, Try.func119, rfl, by decide +kernel, rfl, by kernel_rfl, by kernel_rfl⟩
/- slices.EqualFunc[[]glossator/api.Pattern,[]glossator/api.Pattern,glossator/api.Pattern,glossator/api.Pattern] -/
def ac120_l0 : AC := .seq
 (.reg [⟨some 18, .bin .lss .int (.tmp 17) (.tmp 16), none⟩])
 (.seq
  (.cond (.tmp 18)
   (.skip)
   (.exit 0))
  (.seq
   (.block 1
    (.seq
     (.reg [⟨some 19, .mov (.tmp 17), none⟩,
       ⟨some 20, .iaddr 3 (.tmp 15) (.tmp 17), none⟩,
       ⟨some 21, .load true 3 (.tmp 20), none⟩,
       ⟨some 8, .alloc 127 3 [(.int .i64 0), (.int .i64 0), (.slice none 0 0)], none⟩,
       ⟨some 7, .mov (.tmp 19), none⟩,
       ⟨none, .store 3 (.tmp 8) (.tmp 21), none⟩])
     (.seq
      (.reg [⟨some 22, .mov (.tmp 1), none⟩,
        ⟨some 23, .mov (.tmp 7), none⟩,
        ⟨some 24, .iaddr 3 (.tmp 22) (.tmp 23), none⟩,
        ⟨some 25, .load true 3 (.tmp 24), none⟩,
        ⟨some 9, .alloc 127 3 [(.int .i64 0), (.int .i64 0), (.slice none 0 0)], none⟩,
        ⟨none, .store 3 (.tmp 9) (.tmp 25), none⟩])
      (.seq
       (.reg [⟨some 26, .mov (.tmp 2), none⟩,
         ⟨some 27, .load true 3 (.tmp 8), none⟩,
         ⟨some 28, .load true 3 (.tmp 9), none⟩,
         ⟨some 29, .call (.tmp 26) [(.tmp 27), (.tmp 28)], none⟩,
         ⟨some 30, .un .not (.tmp 29), none⟩])
       (.cond (.tmp 30)
        (.seq
         (.reg [⟨some 6, .mov (.const (.bool false)), none⟩])
         (.ret))
        (.skip))))))
   (.reg [⟨some 31, .bin .add .int (.tmp 17) (.const (.int .i64 1)), none⟩,
     ⟨some 17, .mov (.tmp 31), none⟩])))
def ac120 : AC := .seq
 (.reg [⟨some 6, .mov (.const (.bool false)), none⟩])
 (.seq
  (.seq
   (.reg [⟨some 10, .mov (.tmp 0), none⟩,
     ⟨some 11, .slen false (.tmp 10), none⟩,
     ⟨some 12, .mov (.tmp 1), none⟩,
     ⟨some 13, .slen false (.tmp 12), none⟩,
     ⟨some 14, .bin .neq .int (.tmp 11) (.tmp 13), none⟩])
   (.cond (.tmp 14)
    (.seq
     (.reg [⟨some 6, .mov (.const (.bool false)), none⟩])
     (.ret))
    (.skip)))
  (.seq
   (.seq
    (.reg [⟨some 15, .mov (.tmp 0), none⟩,
      ⟨some 16, .slen false (.tmp 15), none⟩,
      ⟨some 17, .mov (.const (.int .i64 0)), none⟩])
    (.block 0
     (.loop ac120_l0)))
   (.seq
    (.reg [⟨some 6, .mov (.const (.bool true)), none⟩])
    (.ret))))
theorem fn120 : Fun Try.prog 120 32 ac120 [.tmp 6] := ⟨mixedR, Try.f120, _, Try.func120, rfl, by decide +kernel, rfl, by kernel_rfl, by kernel_rfl⟩
/- glossator/exhaustive.matches -/
def ac121 : AC := .seq
 (.reg [⟨some 2, .box 127 3 (.tmp 0), none⟩,
   ⟨some 3, .box 127 3 (.tmp 1), none⟩,
   ⟨some 4, .mov (.const (.bool false)), none⟩])
 (.seq
  (.seq
   (.reg [⟨some 5, .faddr 0 (.tmp 2), none⟩,
     ⟨some 6, .load false 1 (.tmp 5), none⟩,
     ⟨some 7, .bin .eql .int (.tmp 6) (.const (.int .i64 0)), none⟩])
   (.cond (.tmp 7)
    (.seq
     (.reg [⟨some 4, .mov (.const (.bool true)), none⟩])
     (.ret))
    (.skip)))
  (.seq
   (.reg [⟨some 8, .faddr 0 (.tmp 2), none⟩,
     ⟨some 9, .load false 1 (.tmp 8), none⟩,
     ⟨some 10, .faddr 0 (.tmp 3), none⟩,
     ⟨some 11, .load false 1 (.tmp 10), none⟩,
     ⟨some 12, .bin .eql .int (.tmp 9) (.tmp 11), none⟩,
     ⟨some 13, .mov (.tmp 12), none⟩,
     ⟨some 14, .faddr 1 (.tmp 2), some (13, true)⟩,
     ⟨some 15, .load false 1 (.tmp 14), some (13, true)⟩,
     ⟨some 16, .faddr 1 (.tmp 3), some (13, true)⟩,
     ⟨some 17, .load false 1 (.tmp 16), some (13, true)⟩,
     ⟨some 18, .bin .eql .int (.tmp 15) (.tmp 17), some (13, true)⟩,
     ⟨some 19, .pick (.tmp 13) (.tmp 18) (.const (.bool false)), none⟩,
     ⟨some 20, .mov (.tmp 19), none⟩,
     ⟨some 21, .faddr 2 (.tmp 2), some (20, true)⟩,
     ⟨some 22, .load false 1 (.tmp 21), some (20, true)⟩,
     ⟨some 23, .faddr 2 (.tmp 3), some (20, true)⟩,
     ⟨some 24, .load false 1 (.tmp 23), some (20, true)⟩,
     ⟨some 25, .call (.func 56) [(.tmp 22), (.tmp 24)], some (20, true)⟩,
     ⟨some 26, .pick (.tmp 20) (.tmp 25) (.const (.bool false)), none⟩,
     ⟨some 4, .mov (.tmp 26), none⟩])
   (.ret)))
theorem fn121 : Fun Try.prog 121 27 ac121 [.tmp 4] := ⟨mixedR, Try.f121, _, Try.func121, rfl, by decide +kernel, rfl, by kernel_rfl, by kernel_rfl⟩
/- slices.IndexFunc[[]glossator/api.DomainVariant,glossator/api.DomainVariant] -/
def ac154_l0 : AC := .seq
 (.reg [⟨some 9, .bin .lss .int (.tmp 8) (.tmp 7), none⟩])
 (.seq
  (.cond (.tmp 9)
   (.skip)
   (.exit 0))
  (.seq
   (.block 1
    (.seq
     (.reg [⟨some 10, .mov (.tmp 8), none⟩,
       ⟨some 5, .mov (.tmp 10), none⟩])
     (.seq
      (.reg [⟨some 11, .mov (.tmp 1), none⟩,
        ⟨some 12, .mov (.tmp 0), none⟩,
        ⟨some 13, .mov (.tmp 5), none⟩,
        ⟨some 14, .iaddr 2 (.tmp 12) (.tmp 13), none⟩,
        ⟨some 15, .load true 2 (.tmp 14), none⟩,
        ⟨some 16, .call (.tmp 11) [(.tmp 15)], none⟩])
      (.cond (.tmp 16)
       (.seq
        (.reg [⟨some 17, .mov (.tmp 5), none⟩,
          ⟨some 4, .mov (.tmp 17), none⟩])
        (.ret))
       (.skip)))))
   (.reg [⟨some 18, .bin .add .int (.tmp 8) (.const (.int .i64 1)), none⟩,
     ⟨some 8, .mov (.tmp 18), none⟩])))
def ac154 : AC := .seq
 (.reg [⟨some 4, .mov (.const (.int .i64 0)), none⟩])
 (.seq
  (.seq
   (.reg [⟨some 6, .mov (.tmp 0), none⟩,
     ⟨some 7, .slen false (.tmp 6), none⟩,
     ⟨some 8, .mov (.const (.int .i64 0)), none⟩])
   (.block 0
    (.loop ac154_l0)))
  (.seq
   (.reg [⟨some 4, .mov (.const (.int .i64 (-1))), none⟩])
   (.ret)))
theorem fn154 : Fun Try.prog 154 19 ac154 [.tmp 4] := ⟨mixedR, Try.f154, _, Try.func154, rfl, by decide +kernel, rfl, by kernel_rfl, by kernel_rfl⟩
/- slices.IndexFunc[[]glossator/api.Domain,glossator/api.Domain] -/
def ac155_l0 : AC := .seq
 (.reg [⟨some 9, .bin .lss .int (.tmp 8) (.tmp 7), none⟩])
 (.seq
  (.cond (.tmp 9)
   (.skip)
   (.exit 0))
  (.seq
   (.block 1
    (.seq
     (.reg [⟨some 10, .mov (.tmp 8), none⟩,
       ⟨some 5, .mov (.tmp 10), none⟩])
     (.seq
      (.reg [⟨some 11, .mov (.tmp 1), none⟩,
        ⟨some 12, .mov (.tmp 0), none⟩,
        ⟨some 13, .mov (.tmp 5), none⟩,
        ⟨some 14, .iaddr 2 (.tmp 12) (.tmp 13), none⟩,
        ⟨some 15, .load true 2 (.tmp 14), none⟩,
        ⟨some 16, .call (.tmp 11) [(.tmp 15)], none⟩])
      (.cond (.tmp 16)
       (.seq
        (.reg [⟨some 17, .mov (.tmp 5), none⟩,
          ⟨some 4, .mov (.tmp 17), none⟩])
        (.ret))
       (.skip)))))
   (.reg [⟨some 18, .bin .add .int (.tmp 8) (.const (.int .i64 1)), none⟩,
     ⟨some 8, .mov (.tmp 18), none⟩])))
def ac155 : AC := .seq
 (.reg [⟨some 4, .mov (.const (.int .i64 0)), none⟩])
 (.seq
  (.seq
   (.reg [⟨some 6, .mov (.tmp 0), none⟩,
     ⟨some 7, .slen false (.tmp 6), none⟩,
     ⟨some 8, .mov (.const (.int .i64 0)), none⟩])
   (.block 0
    (.loop ac155_l0)))
  (.seq
   (.reg [⟨some 4, .mov (.const (.int .i64 (-1))), none⟩])
   (.ret)))
theorem fn155 : Fun Try.prog 155 19 ac155 [.tmp 4] := ⟨mixedR, Try.f155, _, Try.func155, rfl, by decide +kernel, rfl, by kernel_rfl, by kernel_rfl⟩
/- (glossator/exhaustive.matrix).validVariants$1 -/
def ac156 : AC := .seq
 (.reg [⟨some 2, .box 135 2 (.tmp 0), none⟩,
   ⟨some 3, .mov (.const (.bool false)), none⟩])
 (.seq
  (.reg [⟨some 4, .faddr 0 (.tmp 2), none⟩,
    ⟨some 5, .load false 1 (.tmp 4), none⟩,
    ⟨some 6, .faddr 0 (.tmp 1), none⟩,
    ⟨some 7, .load false 1 (.tmp 6), none⟩,
    ⟨some 8, .bin .eql .int (.tmp 5) (.tmp 7), none⟩,
    ⟨some 3, .mov (.tmp 8), none⟩])
  (.ret))
theorem fn156 : Fun Try.prog 156 9 ac156 [.tmp 3] := ⟨mixedR, Try.f156, _, Try.func156, rfl, by decide +kernel, rfl, by kernel_rfl, by kernel_rfl⟩
/- (glossator/exhaustive.matrix).validVariants$2 -/
def ac157 : AC := .seq
 (.reg [⟨some 3, .mov (.const (.bool false)), none⟩])
 (.seq
  (.reg [⟨some 4, .load true 1 (.tmp 1), none⟩,
    ⟨some 5, .mov (.tmp 0), none⟩,
    ⟨some 6, .call (.func 106) [(.tmp 4), (.tmp 5)], none⟩,
    ⟨some 7, .un .not (.tmp 6), none⟩,
    ⟨some 3, .mov (.tmp 7), none⟩])
  (.ret))
theorem fn157 : Fun Try.prog 157 8 ac157 [.tmp 3] := ⟨mixedR, Try.f157, _, Try.func157, rfl, by decide +kernel, rfl, by kernel_rfl, by kernel_rfl⟩
/- slices.IndexFunc[[]int,int] -/
def ac158_l0 : AC := .seq
 (.reg [⟨some 9, .bin .lss .int (.tmp 8) (.tmp 7), none⟩])
 (.seq
  (.cond (.tmp 9)
   (.skip)
   (.exit 0))
  (.seq
   (.block 1
    (.seq
     (.reg [⟨some 10, .mov (.tmp 8), none⟩,
       ⟨some 5, .mov (.tmp 10), none⟩])
     (.seq
      (.reg [⟨some 11, .mov (.tmp 1), none⟩,
        ⟨some 12, .mov (.tmp 0), none⟩,
        ⟨some 13, .mov (.tmp 5), none⟩,
        ⟨some 14, .iaddr 1 (.tmp 12) (.tmp 13), none⟩,
        ⟨some 15, .load false 1 (.tmp 14), none⟩,
        ⟨some 16, .call (.tmp 11) [(.tmp 15)], none⟩])
      (.cond (.tmp 16)
       (.seq
        (.reg [⟨some 17, .mov (.tmp 5), none⟩,
          ⟨some 4, .mov (.tmp 17), none⟩])
        (.ret))
       (.skip)))))
   (.reg [⟨some 18, .bin .add .int (.tmp 8) (.const (.int .i64 1)), none⟩,
     ⟨some 8, .mov (.tmp 18), none⟩])))
def ac158 : AC := .seq
 (.reg [⟨some 4, .mov (.const (.int .i64 0)), none⟩])
 (.seq
  (.seq
   (.reg [⟨some 6, .mov (.tmp 0), none⟩,
     ⟨some 7, .slen false (.tmp 6), none⟩,
     ⟨some 8, .mov (.const (.int .i64 0)), none⟩])
   (.block 0
    (.loop ac158_l0)))
  (.seq
   (.reg [⟨some 4, .mov (.const (.int .i64 (-1))), none⟩])
   (.ret)))
theorem fn158 : Fun Try.prog 158 19 ac158 [.tmp 4] := ⟨mixedR, Try.f158, _, Try.func158, rfl, by decide +kernel, rfl, by kernel_rfl, by kernel_rfl⟩
/- glossator/exhaustive.variant -/
def ac159 : AC := .seq
 (.reg [⟨some 2, .box 132 2 (.tmp 0), none⟩,
   ⟨some 3, .box 3 1 (.tmp 1), none⟩,
   ⟨some 4, .mov (.const (.pointer none)), none⟩])
 (.seq
  (.reg [⟨some 6, .faddr 1 (.tmp 2), none⟩,
    ⟨some 7, .load false 1 (.tmp 6), none⟩,
    ⟨some 8, .mkfn 185 [(.tmp 3)], none⟩,
    ⟨some 9, .call (.func 154) [(.tmp 7), (.tmp 8)], none⟩,
    ⟨some 5, .mov (.tmp 9), none⟩])
  (.seq
   (.seq
    (.reg [⟨some 10, .mov (.tmp 5), none⟩,
      ⟨some 11, .bin .lss .int (.tmp 10) (.const (.int .i64 0)), none⟩])
    (.cond (.tmp 11)
     (.seq
      (.reg [⟨some 4, .mov (.const (.pointer none)), none⟩])
      (.ret))
     (.skip)))
   (.seq
    (.reg [⟨some 12, .faddr 1 (.tmp 2), none⟩,
      ⟨some 13, .load false 1 (.tmp 12), none⟩,
      ⟨some 14, .mov (.tmp 5), none⟩,
      ⟨some 15, .iaddr 2 (.tmp 13) (.tmp 14), none⟩,
      ⟨some 4, .mov (.tmp 15), none⟩])
    (.ret))))
theorem fn159 : Fun Try.prog 159 16 ac159 [.tmp 4] := ⟨mixedR, Try.f159, _, Try.func159, rfl, by decide +kernel, rfl, by kernel_rfl, by kernel_rfl⟩
/- glossator/exhaustive.constructors -/
def ac160_l0 : AC := .seq
 (.reg [⟨some 10, .bin .lss .int (.tmp 9) (.tmp 8), none⟩])
 (.seq
  (.cond (.tmp 10)
   (.skip)
   (.exit 0))
  (.seq
   (.block 1
    (.seq
     (.reg [⟨some 11, .iaddr 1 (.tmp 7) (.tmp 9), none⟩,
       ⟨some 12, .load false 1 (.tmp 11), none⟩,
       ⟨some 5, .mov (.tmp 12), none⟩])
     (.seq
      (.reg [⟨some 13, .mov (.tmp 5), none⟩,
        ⟨some 14, .iaddr 3 (.tmp 13) (.const (.int .i64 0)), none⟩,
        ⟨some 15, .load true 3 (.tmp 14), none⟩,
        ⟨some 6, .alloc 127 3 [(.int .i64 0), (.int .i64 0), (.slice none 0 0)], none⟩,
        ⟨none, .store 3 (.tmp 6) (.tmp 15), none⟩])
      (.seq
       (.reg [⟨some 16, .faddr 0 (.tmp 6), none⟩,
         ⟨some 17, .load false 1 (.tmp 16), none⟩,
         ⟨some 18, .bin .neq .int (.tmp 17) (.const (.int .i64 0)), none⟩,
         ⟨some 19, .mov (.tmp 18), none⟩,
         ⟨some 20, .mov (.tmp 3), some (19, true)⟩,
         ⟨some 21, .mkfn 186 [(.tmp 6)], some (19, true)⟩,
         ⟨some 22, .call (.func 167) [(.tmp 20), (.tmp 21)], some (19, true)⟩,
         ⟨some 23, .un .not (.tmp 22), some (19, true)⟩,
         ⟨some 24, .pick (.tmp 19) (.tmp 23) (.const (.bool false)), none⟩])
       (.cond (.tmp 24)
        (.reg [⟨some 25, .mov (.tmp 3), none⟩,
          ⟨some 26, .load true 3 (.tmp 6), none⟩,
          ⟨some 27, .bslice 127 3 [(.int .i64 0), (.int .i64 0), (.slice none 0 0)] 1 [(0, (.tmp 26))], none⟩,
          ⟨some 28, .app 127 3 (.tmp 25) (.tmp 27), none⟩,
          ⟨some 3, .mov (.tmp 28), none⟩])
        (.skip))))))
   (.reg [⟨some 29, .bin .add .int (.tmp 9) (.const (.int .i64 1)), none⟩,
     ⟨some 9, .mov (.tmp 29), none⟩])))
def ac160 : AC := .seq
 (.reg [⟨some 2, .mov (.const (.slice none 0 0)), none⟩])
 (.seq
  (.reg [⟨some 3, .mov (.const (.slice none 0 0)), none⟩])
  (.seq
   (.seq
    (.reg [⟨some 7, .mov (.tmp 0), none⟩,
      ⟨some 8, .slen false (.tmp 7), none⟩,
      ⟨some 9, .mov (.const (.int .i64 0)), none⟩])
    (.block 0
     (.loop ac160_l0)))
   (.seq
    (.reg [⟨some 30, .mov (.tmp 3), none⟩,
      ⟨some 2, .mov (.tmp 30), none⟩])
    (.ret))))
theorem fn160 : Fun Try.prog 160 31 ac160 [.tmp 2] := ⟨mixedR, Try.f160, _, Try.func160, rfl, by decide +kernel, rfl, by kernel_rfl, by kernel_rfl⟩
/- glossator/exhaustive.absent -/
def ac161_l0 : AC := .seq
 (.seq
  (.reg [⟨some 20, .mov (.tmp 6), none⟩,
    ⟨some 21, .mov (.tmp 7), none⟩,
    ⟨some 22, .call (.tmp 20) [(.tmp 21)], none⟩])
  (.cond (.tmp 22)
   (.skip)
   (.exit 1)))
 (.block 2
  (.reg [⟨some 23, .mov (.tmp 7), none⟩,
    ⟨some 24, .bin .add .int (.tmp 23) (.const (.int .i64 1)), none⟩,
    ⟨some 7, .mov (.tmp 24), none⟩]))
def ac161_l1 : AC := .seq
 (.reg [⟨some 30, .bin .lss .int (.tmp 29) (.const (.int .i64 2)), none⟩])
 (.seq
  (.cond (.tmp 30)
   (.skip)
   (.exit 3))
  (.seq
   (.block 4
    (.seq
     (.reg [⟨some 31, .mov (.tmp 29), none⟩,
       ⟨some 8, .mov (.tmp 31), none⟩])
     (.seq
      (.reg [⟨some 32, .mov (.tmp 6), none⟩,
        ⟨some 33, .mov (.tmp 8), none⟩,
        ⟨some 34, .call (.tmp 32) [(.tmp 33)], none⟩,
        ⟨some 35, .un .not (.tmp 34), none⟩])
      (.cond (.tmp 35)
       (.seq
        (.reg [⟨some 36, .mov (.tmp 8), none⟩,
          ⟨some 37, .build [(.int .i64 0), (.int .i64 0), (.slice none 0 0)] [(0, 1), (1, 1), (2, 1)] [(0, (.const (.int .i64 3))), (1, (.tmp 36))], none⟩,
          ⟨none, .store 3 (.tmp 4) (.tmp 37), none⟩,
          ⟨some 5, .mov (.const (.bool true)), none⟩])
        (.ret))
       (.skip)))))
   (.reg [⟨some 38, .bin .add .int (.tmp 29) (.const (.int .i64 1)), none⟩,
     ⟨some 29, .mov (.tmp 38), none⟩])))
def ac161_l2 : AC := .seq
 (.reg [⟨some 44, .bin .lss .int (.tmp 43) (.tmp 42), none⟩])
 (.seq
  (.cond (.tmp 44)
   (.skip)
   (.exit 5))
  (.seq
   (.block 6
    (.seq
     (.reg [⟨some 45, .iaddr 2 (.tmp 41) (.tmp 43), none⟩,
       ⟨some 46, .load true 2 (.tmp 45), none⟩,
       ⟨some 10, .alloc 135 2 [(.int .i64 0), (.slice none 0 0)], none⟩,
       ⟨none, .store 2 (.tmp 10) (.tmp 46), none⟩])
     (.seq
      (.reg [⟨some 47, .mov (.tmp 6), none⟩,
        ⟨some 48, .faddr 0 (.tmp 10), none⟩,
        ⟨some 49, .load false 1 (.tmp 48), none⟩,
        ⟨some 50, .call (.tmp 47) [(.tmp 49)], none⟩,
        ⟨some 51, .un .not (.tmp 50), none⟩])
      (.cond (.tmp 51)
       (.seq
        (.dreg [⟨some 52, .faddr 0 (.tmp 10), none⟩,
          ⟨some 53, .load false 1 (.tmp 52), none⟩,
          ⟨some 54, .faddr 1 (.tmp 10), none⟩,
          ⟨some 55, .load false 1 (.tmp 54), none⟩,
          ⟨some 56, .slen false (.tmp 55), none⟩,
          ⟨some 57, .mkslice 127 3 [(.int .i64 0), (.int .i64 0), (.slice none 0 0)] (.tmp 56) (.tmp 56), none⟩,
          ⟨some 58, .build [(.int .i64 0), (.int .i64 0), (.slice none 0 0)] [(0, 1), (1, 1), (2, 1)] [(0, (.const (.int .i64 1))), (1, (.tmp 53)), (2, (.tmp 57))], none⟩,
          ⟨none, .store 3 (.tmp 4) (.tmp 58), none⟩,
          ⟨some 5, .mov (.const (.bool true)), none⟩]
          [[], [0], [], [2], [3], [4, 4], [1, 5], [6, 0, 1, 2, 3, 4, 5, 6], [7, 0, 1, 2, 3, 4, 5, 6, 7]]
          [[10], [52], [10], [54], [55], [56, 56], [53, 57], [4, 58], []])
        (.ret))
       (.skip)))))
   (.reg [⟨some 59, .bin .add .int (.tmp 43) (.const (.int .i64 1)), none⟩,
     ⟨some 43, .mov (.tmp 59), none⟩])))
def ac161 : AC := .seq
 (.reg [⟨some 2, .box 132 2 (.tmp 0), none⟩,
   ⟨some 3, .box 64 1 (.tmp 1), none⟩,
   ⟨some 4, .alloc 127 3 [(.int .i64 0), (.int .i64 0), (.slice none 0 0)], none⟩,
   ⟨some 5, .mov (.const (.bool false)), none⟩])
 (.seq
  (.seq
   (.reg [⟨some 11, .load false 1 (.tmp 3), none⟩,
     ⟨some 12, .slen false (.tmp 11), none⟩,
     ⟨some 13, .bin .eql .int (.tmp 12) (.const (.int .i64 0)), none⟩])
   (.cond (.tmp 13)
    (.seq
     (.reg [⟨some 14, .build [(.int .i64 0), (.int .i64 0), (.slice none 0 0)] [(0, 1), (1, 1), (2, 1)] [], none⟩,
       ⟨none, .store 3 (.tmp 4) (.tmp 14), none⟩,
       ⟨some 5, .mov (.const (.bool true)), none⟩])
     (.ret))
    (.skip)))
  (.seq
   (.reg [⟨some 15, .mkfn 187 [(.tmp 3)], none⟩,
     ⟨some 6, .mov (.tmp 15), none⟩])
   (.seq
    (.seq
     (.reg [⟨some 16, .faddr 0 (.tmp 2), none⟩,
       ⟨some 17, .load false 1 (.tmp 16), none⟩])
     (.block 0
      (.seq
       (.reg [⟨some 19, .bin .eql .int (.tmp 17) (.const (.int .i64 2)), none⟩,
         ⟨some 18, .mov (.tmp 19), none⟩])
       (.cond (.tmp 18)
        (.seq
         (.reg [⟨some 7, .mov (.const (.int .i64 0)), none⟩])
         (.seq
          (.block 1
           (.loop ac161_l0))
          (.seq
           (.reg [⟨some 25, .mov (.tmp 7), none⟩,
             ⟨some 26, .build [(.int .i64 0), (.int .i64 0), (.slice none 0 0)] [(0, 1), (1, 1), (2, 1)] [(0, (.const (.int .i64 2))), (1, (.tmp 25))], none⟩,
             ⟨none, .store 3 (.tmp 4) (.tmp 26), none⟩,
             ⟨some 5, .mov (.const (.bool true)), none⟩])
           (.ret))))
        (.seq
         (.reg [⟨some 28, .bin .eql .int (.tmp 17) (.const (.int .i64 3)), none⟩,
           ⟨some 27, .mov (.tmp 28), none⟩])
         (.cond (.tmp 27)
          (.seq
           (.seq
            (.reg [⟨some 29, .mov (.const (.int .i64 0)), none⟩])
            (.block 3
             (.loop ac161_l1)))
           (.seq
            (.reg [⟨some 39, .build [(.int .i64 0), (.int .i64 0), (.slice none 0 0)] [(0, 1), (1, 1), (2, 1)] [], none⟩,
              ⟨none, .store 3 (.tmp 4) (.tmp 39), none⟩,
              ⟨some 5, .mov (.const (.bool false)), none⟩])
            (.ret)))
          (.skip)))))))
    (.seq
     (.seq
      (.reg [⟨some 40, .faddr 1 (.tmp 2), none⟩,
        ⟨some 41, .load false 1 (.tmp 40), none⟩,
        ⟨some 42, .slen false (.tmp 41), none⟩,
        ⟨some 43, .mov (.const (.int .i64 0)), none⟩])
      (.block 5
       (.loop ac161_l2)))
     (.seq
      (.reg [⟨some 60, .build [(.int .i64 0), (.int .i64 0), (.slice none 0 0)] [(0, 1), (1, 1), (2, 1)] [], none⟩,
        ⟨none, .store 3 (.tmp 4) (.tmp 60), none⟩,
        ⟨some 5, .mov (.const (.bool false)), none⟩])
      (.ret))))))
theorem fn161 : Fun Try.prog 161 61 ac161 [.cell 4 3 true, .tmp 5] := ⟨mixedR, Try.f161, _, Try.func161, rfl, by decide +kernel, rfl, by kernel_rfl, by kernel_rfl⟩
/- glossator/exhaustive.defaultRows -/
def ac162 : AC := .seq
 (.reg [⟨some 2, .mov (.const (.slice none 0 0)), none⟩])
 (.seq
  (.reg [⟨some 3, .mov (.tmp 0), none⟩,
    ⟨some 4, .call (.func 165) [(.tmp 3), (.const (.int .i64 (-1))), (.const (.int .i64 0)), (.const (.int .i64 0))], none⟩,
    ⟨some 2, .mov (.tmp 4), none⟩])
  (.ret))
theorem fn162 : Fun Try.prog 162 5 ac162 [.tmp 2] := ⟨mixedR, Try.f162, _, Try.func162, rfl, by decide +kernel, rfl, by kernel_rfl, by kernel_rfl⟩
/- glossator/exhaustive.fields -/
def ac163 : AC := .seq
 (.reg [⟨some 2, .box 132 2 (.tmp 0), none⟩,
   ⟨some 3, .box 127 3 (.tmp 1), none⟩,
   ⟨some 4, .mov (.const (.slice none 0 0)), none⟩])
 (.seq
  (.seq
   (.reg [⟨some 6, .load true 2 (.tmp 2), none⟩,
     ⟨some 7, .faddr 1 (.tmp 3), none⟩,
     ⟨some 8, .load false 1 (.tmp 7), none⟩,
     ⟨some 9, .call (.func 159) [(.tmp 6), (.tmp 8)], none⟩,
     ⟨some 5, .mov (.tmp 9), none⟩])
   (.seq
    (.reg [⟨some 10, .faddr 0 (.tmp 3), none⟩,
      ⟨some 11, .load false 1 (.tmp 10), none⟩,
      ⟨some 12, .bin .eql .int (.tmp 11) (.const (.int .i64 1)), none⟩,
      ⟨some 13, .mov (.tmp 12), none⟩,
      ⟨some 14, .mov (.tmp 5), some (13, true)⟩,
      ⟨some 15, .bin .neq .ptr (.tmp 14) (.const (.pointer none)), some (13, true)⟩,
      ⟨some 16, .pick (.tmp 13) (.tmp 15) (.const (.bool false)), none⟩])
    (.cond (.tmp 16)
     (.seq
      (.reg [⟨some 17, .mov (.tmp 5), none⟩,
        ⟨some 18, .nilc (.tmp 17), none⟩,
        ⟨some 19, .faddr 1 (.tmp 18), none⟩,
        ⟨some 20, .load false 1 (.tmp 19), none⟩,
        ⟨some 4, .mov (.tmp 20), none⟩])
      (.ret))
     (.skip))))
  (.seq
   (.reg [⟨some 4, .mov (.const (.slice none 0 0)), none⟩])
   (.ret)))
theorem fn163 : Fun Try.prog 163 21 ac163 [.tmp 4] := ⟨mixedR, Try.f163, _, Try.func163, rfl, by decide +kernel, rfl, by kernel_rfl, by kernel_rfl⟩
/- slices.Concat[[]int,int] -/
def ac164_l0 : AC := .seq
 (.reg [⟨some 12, .bin .lss .int (.tmp 11) (.tmp 10), none⟩])
 (.seq
  (.cond (.tmp 12)
   (.skip)
   (.exit 0))
  (.seq
   (.block 1
    (.seq
     (.reg [⟨some 13, .iaddr 1 (.tmp 9) (.tmp 11), none⟩,
       ⟨some 14, .load false 1 (.tmp 13), none⟩,
       ⟨some 5, .mov (.tmp 14), none⟩])
     (.seq
      (.reg [⟨some 15, .mov (.tmp 3), none⟩,
        ⟨some 16, .mov (.tmp 5), none⟩,
        ⟨some 17, .slen false (.tmp 16), none⟩,
        ⟨some 18, .bin .add .int (.tmp 15) (.tmp 17), none⟩,
        ⟨some 3, .mov (.tmp 18), none⟩])
      (.seq
       (.reg [⟨some 19, .mov (.tmp 3), none⟩,
         ⟨some 20, .bin .lss .int (.tmp 19) (.const (.int .i64 0)), none⟩])
       (.cond (.tmp 20)
        (.reg [⟨some 21, .bad, none⟩,
          ⟨none, .bad, none⟩])
        (.skip))))))
   (.reg [⟨some 22, .bin .add .int (.tmp 11) (.const (.int .i64 1)), none⟩,
     ⟨some 11, .mov (.tmp 22), none⟩])))
def ac164_l1 : AC := .seq
 (.reg [⟨some 28, .bin .lss .int (.tmp 27) (.tmp 26), none⟩])
 (.seq
  (.cond (.tmp 28)
   (.skip)
   (.exit 2))
  (.seq
   (.block 3
    (.seq
     (.reg [⟨some 29, .iaddr 1 (.tmp 25) (.tmp 27), none⟩,
       ⟨some 30, .load false 1 (.tmp 29), none⟩,
       ⟨some 8, .mov (.tmp 30), none⟩])
     (.reg [⟨some 31, .mov (.tmp 6), none⟩,
       ⟨some 32, .mov (.tmp 8), none⟩,
       ⟨some 33, .app 3 1 (.tmp 31) (.tmp 32), none⟩,
       ⟨some 6, .mov (.tmp 33), none⟩])))
   (.reg [⟨some 34, .bin .add .int (.tmp 27) (.const (.int .i64 1)), none⟩,
     ⟨some 27, .mov (.tmp 34), none⟩])))
def ac164 : AC := .seq
 (.reg [⟨some 2, .mov (.const (.slice none 0 0)), none⟩])
 (.seq
  (.reg [⟨some 3, .mov (.const (.int .i64 0)), none⟩])
  (.seq
   (.seq
    (.reg [⟨some 9, .mov (.tmp 0), none⟩,
      ⟨some 10, .slen false (.tmp 9), none⟩,
      ⟨some 11, .mov (.const (.int .i64 0)), none⟩])
    (.block 0
     (.loop ac164_l0)))
   (.seq
    (.reg [⟨some 23, .mov (.tmp 3), none⟩,
      ⟨some 24, .call (.func 189) [(.const (.slice none 0 0)), (.tmp 23)], none⟩,
      ⟨some 6, .mov (.tmp 24), none⟩])
    (.seq
     (.seq
      (.reg [⟨some 25, .mov (.tmp 0), none⟩,
        ⟨some 26, .slen false (.tmp 25), none⟩,
        ⟨some 27, .mov (.const (.int .i64 0)), none⟩])
      (.block 2
       (.loop ac164_l1)))
     (.seq
      (.reg [⟨some 35, .mov (.tmp 6), none⟩,
        ⟨some 2, .mov (.tmp 35), none⟩])
      (.ret))))))
theorem fn164 : Fun Try.prog 164 36 ac164 [.tmp 2] := ⟨mixedR, Try.f164, _, Try.func164, rfl, by decide +kernel, rfl, by kernel_rfl, by kernel_rfl⟩
/- glossator/exhaustive.specialize -/
def ac165_l0 : AC := .seq
 (.reg [⟨some 16, .bin .lss .int (.tmp 15) (.tmp 14), none⟩])
 (.seq
  (.cond (.tmp 16)
   (.skip)
   (.exit 0))
  (.seq
   (.block 1
    (.seq
     (.reg [⟨some 17, .iaddr 1 (.tmp 13) (.tmp 15), none⟩,
       ⟨some 18, .load false 1 (.tmp 17), none⟩,
       ⟨some 11, .mov (.tmp 18), none⟩])
     (.seq
      (.reg [⟨some 19, .mov (.tmp 11), none⟩,
        ⟨some 20, .iaddr 3 (.tmp 19) (.const (.int .i64 0)), none⟩,
        ⟨some 21, .load true 3 (.tmp 20), none⟩,
        ⟨some 12, .alloc 127 3 [(.int .i64 0), (.int .i64 0), (.slice none 0 0)], none⟩,
        ⟨none, .store 3 (.tmp 12) (.tmp 21), none⟩])
      (.block 2
       (.seq
        (.reg [⟨some 23, .faddr 0 (.tmp 12), none⟩,
          ⟨some 24, .load false 1 (.tmp 23), none⟩,
          ⟨some 25, .bin .eql .int (.tmp 24) (.const (.int .i64 0)), none⟩,
          ⟨some 22, .mov (.tmp 25), none⟩])
        (.cond (.tmp 22)
         (.dreg [⟨some 26, .mov (.tmp 9), none⟩,
           ⟨some 27, .mov (.tmp 3), none⟩,
           ⟨some 28, .mkslice 127 3 [(.int .i64 0), (.int .i64 0), (.slice none 0 0)] (.tmp 27) (.tmp 27), none⟩,
           ⟨some 29, .mov (.tmp 11), none⟩,
           ⟨some 30, .slice 3 (.tmp 29) (some (.const (.int .i64 1))) none none, none⟩,
           ⟨some 31, .bslice 64 1 [(.slice none 0 0)] 2 [(0, (.tmp 28)), (1, (.tmp 30))], none⟩,
           ⟨some 32, .call (.func 166) [(.tmp 31)], none⟩,
           ⟨some 33, .bslice 64 1 [(.slice none 0 0)] 1 [(0, (.tmp 32))], none⟩,
           ⟨some 34, .app 64 1 (.tmp 26) (.tmp 33), none⟩,
           ⟨some 9, .mov (.tmp 34), none⟩]
           [[], [], [1, 1], [], [3], [2, 4], [5], [6], [0, 7, 6], [8, 8, 0, 1, 2, 3, 4, 5, 6, 7, 8]]
           [[9], [3], [27, 27], [11], [29], [28, 30], [31], [32], [26, 33], [34]])
         (.seq
          (.reg [⟨some 36, .faddr 0 (.tmp 12), none⟩,
            ⟨some 37, .load false 1 (.tmp 36), none⟩,
            ⟨some 38, .mov (.tmp 1), none⟩,
            ⟨some 39, .bin .eql .int (.tmp 37) (.tmp 38), none⟩,
            ⟨some 40, .mov (.tmp 39), none⟩,
            ⟨some 41, .faddr 1 (.tmp 12), some (40, true)⟩,
            ⟨some 42, .load false 1 (.tmp 41), some (40, true)⟩,
            ⟨some 43, .mov (.tmp 2), some (40, true)⟩,
            ⟨some 44, .bin .eql .int (.tmp 42) (.tmp 43), some (40, true)⟩,
            ⟨some 45, .pick (.tmp 40) (.tmp 44) (.const (.bool false)), none⟩,
            ⟨some 35, .mov (.tmp 45), none⟩])
          (.cond (.tmp 35)
           (.dreg [⟨some 46, .mov (.tmp 9), none⟩,
             ⟨some 47, .faddr 2 (.tmp 12), none⟩,
             ⟨some 48, .load false 1 (.tmp 47), none⟩,
             ⟨some 49, .mov (.tmp 11), none⟩,
             ⟨some 50, .slice 3 (.tmp 49) (some (.const (.int .i64 1))) none none, none⟩,
             ⟨some 51, .bslice 64 1 [(.slice none 0 0)] 2 [(0, (.tmp 48)), (1, (.tmp 50))], none⟩,
             ⟨some 52, .call (.func 166) [(.tmp 51)], none⟩,
             ⟨some 53, .bslice 64 1 [(.slice none 0 0)] 1 [(0, (.tmp 52))], none⟩,
             ⟨some 54, .app 64 1 (.tmp 46) (.tmp 53), none⟩,
             ⟨some 9, .mov (.tmp 54), none⟩]
             [[], [], [1], [], [3], [2, 4], [5], [6], [0, 7, 6], [8, 8, 0, 1, 2, 3, 4, 5, 6, 7, 8]]
             [[9], [12], [47], [11], [49], [48, 50], [51], [52], [46, 53], [54]])
           (.skip)))))))))
   (.reg [⟨some 55, .bin .add .int (.tmp 15) (.const (.int .i64 1)), none⟩,
     ⟨some 15, .mov (.tmp 55), none⟩])))
def ac165 : AC := .seq
 (.reg [⟨some 8, .mov (.const (.slice none 0 0)), none⟩])
 (.seq
  (.reg [⟨some 9, .mov (.const (.slice none 0 0)), none⟩])
  (.seq
   (.seq
    (.reg [⟨some 13, .mov (.tmp 0), none⟩,
      ⟨some 14, .slen false (.tmp 13), none⟩,
      ⟨some 15, .mov (.const (.int .i64 0)), none⟩])
    (.block 0
     (.loop ac165_l0)))
   (.seq
    (.reg [⟨some 56, .mov (.tmp 9), none⟩,
      ⟨some 8, .mov (.tmp 56), none⟩])
    (.ret))))
theorem fn165 : Fun Try.prog 165 57 ac165 [.tmp 8] := ⟨mixedR, Try.f165, _, Try.func165, rfl, by decide +kernel, rfl, by kernel_rfl, by kernel_rfl⟩
/- slices.Concat[[]glossator/api.Pattern,glossator/api.Pattern] -/
def ac166_l0 : AC := .seq
 (.reg [⟨some 12, .bin .lss .int (.tmp 11) (.tmp 10), none⟩])
 (.seq
  (.cond (.tmp 12)
   (.skip)
   (.exit 0))
  (.seq
   (.block 1
    (.seq
     (.reg [⟨some 13, .iaddr 1 (.tmp 9) (.tmp 11), none⟩,
       ⟨some 14, .load false 1 (.tmp 13), none⟩,
       ⟨some 5, .mov (.tmp 14), none⟩])
     (.seq
      (.reg [⟨some 15, .mov (.tmp 3), none⟩,
        ⟨some 16, .mov (.tmp 5), none⟩,
        ⟨some 17, .slen false (.tmp 16), none⟩,
        ⟨some 18, .bin .add .int (.tmp 15) (.tmp 17), none⟩,
        ⟨some 3, .mov (.tmp 18), none⟩])
      (.seq
       (.reg [⟨some 19, .mov (.tmp 3), none⟩,
         ⟨some 20, .bin .lss .int (.tmp 19) (.const (.int .i64 0)), none⟩])
       (.cond (.tmp 20)
        (.reg [⟨some 21, .bad, none⟩,
          ⟨none, .bad, none⟩])
        (.skip))))))
   (.reg [⟨some 22, .bin .add .int (.tmp 11) (.const (.int .i64 1)), none⟩,
     ⟨some 11, .mov (.tmp 22), none⟩])))
def ac166_l1 : AC := .seq
 (.reg [⟨some 28, .bin .lss .int (.tmp 27) (.tmp 26), none⟩])
 (.seq
  (.cond (.tmp 28)
   (.skip)
   (.exit 2))
  (.seq
   (.block 3
    (.seq
     (.reg [⟨some 29, .iaddr 1 (.tmp 25) (.tmp 27), none⟩,
       ⟨some 30, .load false 1 (.tmp 29), none⟩,
       ⟨some 8, .mov (.tmp 30), none⟩])
     (.reg [⟨some 31, .mov (.tmp 6), none⟩,
       ⟨some 32, .mov (.tmp 8), none⟩,
       ⟨some 33, .app 127 3 (.tmp 31) (.tmp 32), none⟩,
       ⟨some 6, .mov (.tmp 33), none⟩])))
   (.reg [⟨some 34, .bin .add .int (.tmp 27) (.const (.int .i64 1)), none⟩,
     ⟨some 27, .mov (.tmp 34), none⟩])))
def ac166 : AC := .seq
 (.reg [⟨some 2, .mov (.const (.slice none 0 0)), none⟩])
 (.seq
  (.reg [⟨some 3, .mov (.const (.int .i64 0)), none⟩])
  (.seq
   (.seq
    (.reg [⟨some 9, .mov (.tmp 0), none⟩,
      ⟨some 10, .slen false (.tmp 9), none⟩,
      ⟨some 11, .mov (.const (.int .i64 0)), none⟩])
    (.block 0
     (.loop ac166_l0)))
   (.seq
    (.reg [⟨some 23, .mov (.tmp 3), none⟩,
      ⟨some 24, .call (.func 190) [(.const (.slice none 0 0)), (.tmp 23)], none⟩,
      ⟨some 6, .mov (.tmp 24), none⟩])
    (.seq
     (.seq
      (.reg [⟨some 25, .mov (.tmp 0), none⟩,
        ⟨some 26, .slen false (.tmp 25), none⟩,
        ⟨some 27, .mov (.const (.int .i64 0)), none⟩])
      (.block 2
       (.loop ac166_l1)))
     (.seq
      (.reg [⟨some 35, .mov (.tmp 6), none⟩,
        ⟨some 2, .mov (.tmp 35), none⟩])
      (.ret))))))
theorem fn166 : Fun Try.prog 166 36 ac166 [.tmp 2] := ⟨mixedR, Try.f166, _, Try.func166, rfl, by decide +kernel, rfl, by kernel_rfl, by kernel_rfl⟩
/- slices.ContainsFunc[[]glossator/api.Pattern,glossator/api.Pattern] -/
def ac167 : AC := .seq
 (.reg [⟨some 4, .mov (.const (.bool false)), none⟩])
 (.seq
  (.reg [⟨some 5, .mov (.tmp 0), none⟩,
    ⟨some 6, .mov (.tmp 1), none⟩,
    ⟨some 7, .call (.func 191) [(.tmp 5), (.tmp 6)], none⟩,
    ⟨some 8, .bin .geq .int (.tmp 7) (.const (.int .i64 0)), none⟩,
    ⟨some 4, .mov (.tmp 8), none⟩])
  (.ret))
theorem fn167 : Fun Try.prog 167 9 ac167 [.tmp 4] := ⟨mixedR, Try.f167, _, Try.func167, rfl, by decide +kernel, rfl, by kernel_rfl, by kernel_rfl⟩
/- (glossator/exhaustive.matrix).useful$1 -/
def ac168 : AC := .seq
 (.reg [⟨some 6, .box 127 3 (.tmp 0), none⟩,
   ⟨some 7, .mov (.const (.bool false)), none⟩])
 (.seq
  (.reg [⟨some 9, .load true 2 (.tmp 1), none⟩,
    ⟨some 10, .load true 3 (.tmp 6), none⟩,
    ⟨some 11, .call (.func 163) [(.tmp 9), (.tmp 10)], none⟩,
    ⟨some 8, .mov (.tmp 11), none⟩])
  (.seq
   (.dreg [⟨some 12, .load true 1 (.tmp 2), none⟩,
     ⟨some 13, .mov (.tmp 8), none⟩,
     ⟨some 14, .load false 1 (.tmp 3), none⟩,
     ⟨some 15, .slice 1 (.tmp 14) (some (.const (.int .i64 1))) none none, none⟩,
     ⟨some 16, .bslice 38 1 [(.slice none 0 0)] 2 [(0, (.tmp 13)), (1, (.tmp 15))], none⟩,
     ⟨some 17, .call (.func 164) [(.tmp 16)], none⟩,
     ⟨some 18, .load false 1 (.tmp 4), none⟩,
     ⟨some 19, .faddr 0 (.tmp 6), none⟩,
     ⟨some 20, .load false 1 (.tmp 19), none⟩,
     ⟨some 21, .faddr 1 (.tmp 6), none⟩,
     ⟨some 22, .load false 1 (.tmp 21), none⟩,
     ⟨some 23, .mov (.tmp 8), none⟩,
     ⟨some 24, .slen false (.tmp 23), none⟩,
     ⟨some 25, .call (.func 165) [(.tmp 18), (.tmp 20), (.tmp 22), (.tmp 24)], none⟩,
     ⟨some 26, .mov (.tmp 8), none⟩,
     ⟨some 27, .slen false (.tmp 26), none⟩,
     ⟨some 28, .mkslice 127 3 [(.int .i64 0), (.int .i64 0), (.slice none 0 0)] (.tmp 27) (.tmp 27), none⟩,
     ⟨some 29, .load false 1 (.tmp 5), none⟩,
     ⟨some 30, .slice 3 (.tmp 29) (some (.const (.int .i64 1))) none none, none⟩,
     ⟨some 31, .bslice 64 1 [(.slice none 0 0)] 2 [(0, (.tmp 28)), (1, (.tmp 30))], none⟩,
     ⟨some 32, .call (.func 166) [(.tmp 31)], none⟩,
     ⟨some 33, .call (.func 110) [(.tmp 12), (.tmp 17), (.tmp 25), (.tmp 32)], none⟩,
     ⟨some 7, .mov (.tmp 33), none⟩]
     [[], [], [], [2], [1, 3], [4], [], [], [7], [], [9], [], [11], [6, 8, 10, 12, 5], [], [14], [15, 15], [], [17], [16, 18], [19, 13], [0, 5, 13, 20, 20], [21, 21, 0, 1, 2, 3, 4, 5, 6, 7, 8, 9, 10, 11, 12, 13, 14, 15, 16, 17, 18, 19, 20, 21]]
     [[2], [8], [3], [14], [13, 15], [16], [4], [6], [19], [6], [21], [8], [23], [18, 20, 22, 24], [8], [26], [27, 27], [5], [29], [28, 30], [31], [12, 17, 25, 32], [33]])
   (.ret)))
theorem fn168 : Fun Try.prog 168 34 ac168 [.tmp 7] := ⟨mixedR, Try.f168, _, Try.func168, rfl, by decide +kernel, rfl, by kernel_rfl, by kernel_rfl⟩
/- glossator/exhaustive.variant$1 -/
def ac185 : AC := .seq
 (.reg [⟨some 2, .box 135 2 (.tmp 0), none⟩,
   ⟨some 3, .mov (.const (.bool false)), none⟩])
 (.seq
  (.reg [⟨some 4, .faddr 0 (.tmp 2), none⟩,
    ⟨some 5, .load false 1 (.tmp 4), none⟩,
    ⟨some 6, .load false 1 (.tmp 1), none⟩,
    ⟨some 7, .bin .eql .int (.tmp 5) (.tmp 6), none⟩,
    ⟨some 3, .mov (.tmp 7), none⟩])
  (.ret))
theorem fn185 : Fun Try.prog 185 8 ac185 [.tmp 3] := ⟨mixedR, Try.f185, _, Try.func185, rfl, by decide +kernel, rfl, by kernel_rfl, by kernel_rfl⟩
/- glossator/exhaustive.constructors$1 -/
def ac186 : AC := .seq
 (.reg [⟨some 2, .box 127 3 (.tmp 0), none⟩,
   ⟨some 3, .mov (.const (.bool false)), none⟩])
 (.seq
  (.reg [⟨some 4, .faddr 1 (.tmp 2), none⟩,
    ⟨some 5, .load false 1 (.tmp 4), none⟩,
    ⟨some 6, .faddr 1 (.tmp 1), none⟩,
    ⟨some 7, .load false 1 (.tmp 6), none⟩,
    ⟨some 8, .bin .eql .int (.tmp 5) (.tmp 7), none⟩,
    ⟨some 3, .mov (.tmp 8), none⟩])
  (.ret))
theorem fn186 : Fun Try.prog 186 9 ac186 [.tmp 3] := ⟨mixedR, Try.f186, _, Try.func186, rfl, by decide +kernel, rfl, by kernel_rfl, by kernel_rfl⟩
/- glossator/exhaustive.absent$1 -/
def ac187 : AC := .seq
 (.reg [⟨some 2, .box 3 1 (.tmp 0), none⟩,
   ⟨some 3, .mov (.const (.bool false)), none⟩])
 (.seq
  (.reg [⟨some 4, .load false 1 (.tmp 1), none⟩,
    ⟨some 5, .mkfn 188 [(.tmp 2)], none⟩,
    ⟨some 6, .call (.func 167) [(.tmp 4), (.tmp 5)], none⟩,
    ⟨some 3, .mov (.tmp 6), none⟩])
  (.ret))
theorem fn187 : Fun Try.prog 187 7 ac187 [.tmp 3] := ⟨mixedR, Try.f187, _, Try.func187, rfl, by decide +kernel, rfl, by kernel_rfl, by kernel_rfl⟩
/- glossator/exhaustive.absent$1$1 -/
def ac188 : AC := .seq
 (.reg [⟨some 2, .box 127 3 (.tmp 0), none⟩,
   ⟨some 3, .mov (.const (.bool false)), none⟩])
 (.seq
  (.reg [⟨some 4, .faddr 1 (.tmp 2), none⟩,
    ⟨some 5, .load false 1 (.tmp 4), none⟩,
    ⟨some 6, .load false 1 (.tmp 1), none⟩,
    ⟨some 7, .bin .eql .int (.tmp 5) (.tmp 6), none⟩,
    ⟨some 3, .mov (.tmp 7), none⟩])
  (.ret))
theorem fn188 : Fun Try.prog 188 8 ac188 [.tmp 3] := ⟨mixedR, Try.f188, _, Try.func188, rfl, by decide +kernel, rfl, by kernel_rfl, by kernel_rfl⟩
/- slices.Grow[[]int,int] -/
def ac189 : AC := .seq
 (.reg [⟨some 4, .mov (.const (.slice none 0 0)), none⟩])
 (.seq
  (.seq
   (.reg [⟨some 5, .mov (.tmp 1), none⟩,
     ⟨some 6, .bin .lss .int (.tmp 5) (.const (.int .i64 0)), none⟩])
   (.cond (.tmp 6)
    (.reg [⟨some 7, .bad, none⟩,
      ⟨none, .bad, none⟩])
    (.skip)))
  (.seq
   (.seq
    (.reg [⟨some 8, .mov (.tmp 1), none⟩,
      ⟨some 9, .mov (.tmp 0), none⟩,
      ⟨some 10, .capn (.tmp 9), none⟩,
      ⟨some 11, .mov (.tmp 0), none⟩,
      ⟨some 12, .slen false (.tmp 11), none⟩,
      ⟨some 13, .bin .sub .int (.tmp 10) (.tmp 12), none⟩,
      ⟨some 14, .bin .sub .int (.tmp 8) (.tmp 13), none⟩,
      ⟨some 1, .mov (.tmp 14), none⟩])
    (.seq
     (.reg [⟨some 15, .mov (.tmp 1), none⟩,
       ⟨some 16, .bin .gtr .int (.tmp 15) (.const (.int .i64 0)), none⟩])
     (.cond (.tmp 16)
      (.reg [⟨some 17, .mov (.tmp 0), none⟩,
        ⟨some 18, .mov (.tmp 0), none⟩,
        ⟨some 19, .capn (.tmp 18), none⟩,
        ⟨some 20, .slice 1 (.tmp 17) none (some (.tmp 19)) none, none⟩,
        ⟨some 21, .mov (.tmp 1), none⟩,
        ⟨some 22, .appz 3 1 [(.int .i64 0)] (.tmp 20) (.tmp 21), none⟩,
        ⟨some 23, .mov (.tmp 0), none⟩,
        ⟨some 24, .slen false (.tmp 23), none⟩,
        ⟨some 25, .slice 1 (.tmp 22) none (some (.tmp 24)) none, none⟩,
        ⟨some 0, .mov (.tmp 25), none⟩])
      (.skip))))
   (.seq
    (.reg [⟨some 26, .mov (.tmp 0), none⟩,
      ⟨some 4, .mov (.tmp 26), none⟩])
    (.ret))))
theorem fn189 : Fun Try.prog 189 27 ac189 [.tmp 4] := ⟨mixedR, Try.f189, _, Try.func189, rfl, by decide +kernel, rfl, by kernel_rfl, by kernel_rfl⟩
/- slices.Grow[[]glossator/api.Pattern,glossator/api.Pattern] -/
def ac190 : AC := .seq
 (.reg [⟨some 4, .mov (.const (.slice none 0 0)), none⟩])
 (.seq
  (.seq
   (.reg [⟨some 5, .mov (.tmp 1), none⟩,
     ⟨some 6, .bin .lss .int (.tmp 5) (.const (.int .i64 0)), none⟩])
   (.cond (.tmp 6)
    (.reg [⟨some 7, .bad, none⟩,
      ⟨none, .bad, none⟩])
    (.skip)))
  (.seq
   (.seq
    (.reg [⟨some 8, .mov (.tmp 1), none⟩,
      ⟨some 9, .mov (.tmp 0), none⟩,
      ⟨some 10, .capn (.tmp 9), none⟩,
      ⟨some 11, .mov (.tmp 0), none⟩,
      ⟨some 12, .slen false (.tmp 11), none⟩,
      ⟨some 13, .bin .sub .int (.tmp 10) (.tmp 12), none⟩,
      ⟨some 14, .bin .sub .int (.tmp 8) (.tmp 13), none⟩,
      ⟨some 1, .mov (.tmp 14), none⟩])
    (.seq
     (.reg [⟨some 15, .mov (.tmp 1), none⟩,
       ⟨some 16, .bin .gtr .int (.tmp 15) (.const (.int .i64 0)), none⟩])
     (.cond (.tmp 16)
      (.reg [⟨some 17, .mov (.tmp 0), none⟩,
        ⟨some 18, .mov (.tmp 0), none⟩,
        ⟨some 19, .capn (.tmp 18), none⟩,
        ⟨some 20, .slice 3 (.tmp 17) none (some (.tmp 19)) none, none⟩,
        ⟨some 21, .mov (.tmp 1), none⟩,
        ⟨some 22, .appz 127 3 [(.int .i64 0), (.int .i64 0), (.slice none 0 0)] (.tmp 20) (.tmp 21), none⟩,
        ⟨some 23, .mov (.tmp 0), none⟩,
        ⟨some 24, .slen false (.tmp 23), none⟩,
        ⟨some 25, .slice 3 (.tmp 22) none (some (.tmp 24)) none, none⟩,
        ⟨some 0, .mov (.tmp 25), none⟩])
      (.skip))))
   (.seq
    (.reg [⟨some 26, .mov (.tmp 0), none⟩,
      ⟨some 4, .mov (.tmp 26), none⟩])
    (.ret))))
theorem fn190 : Fun Try.prog 190 27 ac190 [.tmp 4] := ⟨mixedR, Try.f190, _, Try.func190, rfl, by decide +kernel, rfl, by kernel_rfl, by kernel_rfl⟩
/- slices.IndexFunc[[]glossator/api.Pattern,glossator/api.Pattern] -/
def ac191_l0 : AC := .seq
 (.reg [⟨some 9, .bin .lss .int (.tmp 8) (.tmp 7), none⟩])
 (.seq
  (.cond (.tmp 9)
   (.skip)
   (.exit 0))
  (.seq
   (.block 1
    (.seq
     (.reg [⟨some 10, .mov (.tmp 8), none⟩,
       ⟨some 5, .mov (.tmp 10), none⟩])
     (.seq
      (.reg [⟨some 11, .mov (.tmp 1), none⟩,
        ⟨some 12, .mov (.tmp 0), none⟩,
        ⟨some 13, .mov (.tmp 5), none⟩,
        ⟨some 14, .iaddr 3 (.tmp 12) (.tmp 13), none⟩,
        ⟨some 15, .load true 3 (.tmp 14), none⟩,
        ⟨some 16, .call (.tmp 11) [(.tmp 15)], none⟩])
      (.cond (.tmp 16)
       (.seq
        (.reg [⟨some 17, .mov (.tmp 5), none⟩,
          ⟨some 4, .mov (.tmp 17), none⟩])
        (.ret))
       (.skip)))))
   (.reg [⟨some 18, .bin .add .int (.tmp 8) (.const (.int .i64 1)), none⟩,
     ⟨some 8, .mov (.tmp 18), none⟩])))
def ac191 : AC := .seq
 (.reg [⟨some 4, .mov (.const (.int .i64 0)), none⟩])
 (.seq
  (.seq
   (.reg [⟨some 6, .mov (.tmp 0), none⟩,
     ⟨some 7, .slen false (.tmp 6), none⟩,
     ⟨some 8, .mov (.const (.int .i64 0)), none⟩])
   (.block 0
    (.loop ac191_l0)))
  (.seq
   (.reg [⟨some 4, .mov (.const (.int .i64 (-1))), none⟩])
   (.ret)))
theorem fn191 : Fun Try.prog 191 19 ac191 [.tmp 4] := ⟨mixedR, Try.f191, _, Try.func191, rfl, by decide +kernel, rfl, by kernel_rfl, by kernel_rfl⟩
end Go.Proofs.Ytbdoblgofddhdaa
