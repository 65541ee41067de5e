/- X3: joined from ZX3. -/
import Derived.Test.YtiediojibljpiaaVFnU
import Derived.Test.YtiediojibljpiaaVX2
/- UnifyOrderIndependent: the parts of the code (printed by wip/tools/PrintR.lean); one round of the range over the function. -/
set_option maxRecDepth 100000
set_option linter.unusedSimpArgs false
set_option linter.unusedVariables false
namespace Go.Proofs.Ytiediojibljpiaa
open Go Go.Ab Go.RowKit
def ac4_p0 : AC := .reg [⟨some 2, .mov (.const (.bool false)), none⟩]
def ac4_p1 : AC := .seq
 (.reg [⟨some 10, .call (.func 13) [], none⟩,
   ⟨some 11, .un .not (.tmp 10), none⟩])
 (.cond (.tmp 11)
  (.seq
   (.reg [⟨some 2, .mov (.const (.bool false)), none⟩])
   (.ret))
  (.skip))
def ac4_p2 : AC := .reg [⟨some 13, .mov (.tmp 0), none⟩,
  ⟨some 14, .call (.func 9) [(.tmp 13)], none⟩,
  ⟨some 12, .mov (.tmp 14), none⟩,
  ⟨some 15, .ext (.tmp 12) 0, none⟩,
  ⟨some 16, .ext (.tmp 12) 1, none⟩,
  ⟨some 3, .mov (.tmp 15), none⟩,
  ⟨some 4, .mov (.tmp 16), none⟩]
def ac4_p3 : AC := .seq
 (.reg [⟨some 17, .call (.func 13) [], none⟩,
   ⟨some 18, .un .not (.tmp 17), none⟩,
   ⟨some 19, .mov (.tmp 18), none⟩,
   ⟨some 20, .mov (.tmp 0), some (19, false)⟩,
   ⟨some 21, .call (.func 14) [(.tmp 20)], some (19, false)⟩,
   ⟨some 22, .pick (.tmp 19) (.const (.bool true)) (.tmp 21), none⟩])
 (.cond (.tmp 22)
  (.seq
   (.reg [⟨some 23, .call (.func 13) [], none⟩,
     ⟨some 2, .mov (.tmp 23), none⟩])
   (.ret))
  (.skip))
def ac4_p4 : AC := .reg [⟨some 5, .alloc 22 1 [(.slice none 0 0)], none⟩]
def ac4_p5 : AC := .reg [⟨some 24, .mov (.tmp 0), none⟩,
  ⟨some 25, .call (.func 15) [(.tmp 24)], none⟩]
def ac4_as : AC := .reg [⟨some 7, .alloc 31 6 [(.int .i64 0), (.int .i64 0), (.slice none 0 0), (.int .i64 0), (.int .i64 0), (.slice none 0 0)], none⟩,
  ⟨none, .store 6 (.tmp 7) (.tmp 27), none⟩]
def ac4_bo : AC := .reg [⟨some 28, .load false 1 (.tmp 5), none⟩,
  ⟨some 29, .faddr 3 (.tmp 7), none⟩,
  ⟨some 30, .load true 3 (.tmp 29), none⟩,
  ⟨some 31, .faddr 0 (.tmp 7), none⟩,
  ⟨some 32, .load true 3 (.tmp 31), none⟩,
  ⟨some 33, .build [(.int .i64 0), (.int .i64 0), (.slice none 0 0), (.int .i64 0), (.int .i64 0), (.slice none 0 0)] [(0, 3), (3, 3)] [(0, (.tmp 30)), (1, (.tmp 32))], none⟩,
  ⟨some 34, .bslice 31 6 [(.int .i64 0), (.int .i64 0), (.slice none 0 0), (.int .i64 0), (.int .i64 0), (.slice none 0 0)] 1 [(0, (.tmp 33))], none⟩,
  ⟨some 35, .app 31 6 (.tmp 28) (.tmp 34), none⟩,
  ⟨none, .store 1 (.tmp 5) (.tmp 35), none⟩]
def ac4_t0 : AC := .reg [⟨some 37, .load false 1 (.tmp 5), none⟩,
  ⟨some 38, .call (.func 9) [(.tmp 37)], none⟩,
  ⟨some 36, .mov (.tmp 38), none⟩,
  ⟨some 39, .ext (.tmp 36) 0, none⟩,
  ⟨some 40, .ext (.tmp 36) 1, none⟩,
  ⟨some 8, .mov (.tmp 39), none⟩,
  ⟨some 9, .mov (.tmp 40), none⟩]
def ac4_t1 : AC := .reg [⟨some 41, .mov (.tmp 4), none⟩,
  ⟨some 42, .mov (.tmp 9), none⟩,
  ⟨some 43, .bin .eql .bool (.tmp 41) (.tmp 42), none⟩,
  ⟨some 44, .mov (.tmp 43), none⟩,
  ⟨some 45, .mov (.tmp 3), some (44, true)⟩,
  ⟨some 46, .mov (.tmp 8), some (44, true)⟩,
  ⟨some 47, .call (.func 12) [(.tmp 45), (.tmp 46)], some (44, true)⟩,
  ⟨some 48, .pick (.tmp 44) (.tmp 47) (.const (.bool false)), none⟩,
  ⟨some 2, .mov (.tmp 48), none⟩]
def ac49_r0 : AC := .reg [⟨some 4, .load false 1 (.tmp 1), none⟩,
  ⟨some 5, .slen false (.tmp 4), none⟩,
  ⟨some 6, .bin .sub .int (.tmp 5) (.const (.int .i64 1)), none⟩,
  ⟨some 3, .mov (.tmp 6), none⟩]
def ac49_r1 : AC := .reg [⟨some 7, .mov (.tmp 3), none⟩,
  ⟨some 8, .bin .geq .int (.tmp 7) (.const (.int .i64 0)), none⟩]
def ac49_r2 : AC := .reg [⟨some 9, .mov (.tmp 3), none⟩,
  ⟨some 10, .bin .sub .int (.tmp 9) (.const (.int .i64 1)), none⟩,
  ⟨some 3, .mov (.tmp 10), none⟩]
def ac49_a : List AOp := [⟨some 11, .mov (.tmp 0), none⟩,
 ⟨some 12, .mov (.tmp 3), none⟩,
 ⟨some 13, .load false 1 (.tmp 1), none⟩,
 ⟨some 14, .mov (.tmp 3), none⟩,
 ⟨some 15, .iaddr 6 (.tmp 13) (.tmp 14), none⟩,
 ⟨some 16, .load true 6 (.tmp 15), none⟩]
def ac49_b : List AOp := [⟨some 18, .un .not (.tmp 17), none⟩]

def xA : Code → Code
  | .seq a _ => a
  | c => c
def xB : Code → Code
  | .seq _ b => b
  | c => c
def xI : Code → Code
  | .block _ a => a
  | .loop a => a
  | .rangeFunc _ _ a _ => a
  | c => c
def xJ : Code → Code
  | .rangeFunc _ _ _ b => b
  | c => c
def xO : Code → List Oper
  | .region _ ops _ => ops.toList
  | _ => []
noncomputable def b4 : Code := match Try.f4.body with | some b => b | none => .skip
noncomputable def q4 : Code := xB (xB (xB (xB (xB b4))))
noncomputable def rf4 : Code := xI (xB (xA q4))
noncomputable def as4 : List Oper := xO (xI rf4)
noncomputable def bo4 : List Oper := xO (xI (xJ rf4))
noncomputable def asC : Code := .region 8 as4.toArray false
noncomputable def boC : Code := .region 9 bo4.toArray false
noncomputable def t04 : List Oper := xO (xA (xB q4))
noncomputable def t14 : List Oper := xO (xA (xB (xB q4)))
theorem body4 : Try.f4.body = some (.seq (xA b4) (.seq (xA (xB b4)) (.seq (xA (xB (xB b4))) (.seq (xA (xB (xB (xB b4)))) (.seq (xA (xB (xB (xB (xB b4)))))
  (.seq (.seq (xA (xA q4)) (.block 0 (.rangeFunc (.tmp 25) #[26, 27] asC (.block 1 boC)))) (.seq (.region 10 t04.toArray false) (.seq (.region 11 t14.toArray false) .ret)))))))) := by kernel_rfl
theorem p4_0 : compCode Try.prog 49 (xA b4) = some ac4_p0 := by kernel_rfl
theorem p4_1 : compCode Try.prog 49 (xA (xB b4)) = some ac4_p1 := by kernel_rfl
theorem p4_2 : compCode Try.prog 49 (xA (xB (xB b4))) = some ac4_p2 := by kernel_rfl
theorem p4_3 : compCode Try.prog 49 (xA (xB (xB (xB b4)))) = some ac4_p3 := by kernel_rfl
theorem p4_4 : compCode Try.prog 49 (xA (xB (xB (xB (xB b4))))) = some ac4_p4 := by kernel_rfl
theorem p4_5 : compCode Try.prog 49 (xA (xA q4)) = some ac4_p5 := by kernel_rfl
def AC.ops : AC → List AOp
  | .reg l => l
  | _ => []
theorem p4_as : compOps Try.prog 49 as4.toArray.toList as4.toArray.toList = some (AC.ops ac4_as) := by kernel_rfl
theorem p4_bo : compOps Try.prog 49 bo4.toArray.toList bo4.toArray.toList = some (AC.ops ac4_bo) := by kernel_rfl
theorem p4_t0 : compOps Try.prog 49 t04.toArray.toList t04.toArray.toList = some (AC.ops ac4_t0) := by kernel_rfl
theorem p4_t1 : compOps Try.prog 49 t14.toArray.toList t14.toArray.toList = some (AC.ops ac4_t1) := by kernel_rfl
noncomputable def b49 : Code := match Try.f49.body with | some b => b | none => .skip
noncomputable def l49 : Code := xI (xI (xB b49))
noncomputable def o49 : List Oper := xO (xA (xI (xA (xB l49))))
noncomputable def r049 : List Oper := xO (xA b49)
noncomputable def r149 : List Oper := xO (xA (xA l49))
noncomputable def r249 : List Oper := xO (xB (xB l49))
def y49 (o : Oper) : Prop := o.op = .call { callee := .value (.tmp 11), args := #[.tmp 12, .tmp 16], argTypes := #[3, 31] } ∧ o.dst = some 17 ∧ o.guard = none
theorem body49 : Try.f49.body = some (.seq (.region 0 r049.toArray false) (.block 0 (.loop (.seq (.seq (.region 1 r149.toArray false) (.cond (.tmp 8) .skip (.exit 0)))
  (.seq (.block 1 (.seq (.region 3 (o49.take 6 ++ (o49[6]?.getD default) :: o49.drop 7).toArray false) (.cond (.tmp 18) .ret .skip))) (.region 2 r249.toArray false)))))) := by kernel_rfl
theorem y49_ok : y49 (o49[6]?.getD default) := ⟨by kernel_rfl, by kernel_rfl, by kernel_rfl⟩
theorem p49_0 : compOps Try.prog 19 r049.toArray.toList r049.toArray.toList = some (AC.ops ac49_r0) := by kernel_rfl
theorem p49_1 : compOps Try.prog 19 r149.toArray.toList r149.toArray.toList = some (AC.ops ac49_r1) := by kernel_rfl
theorem p49_2 : compOps Try.prog 19 r249.toArray.toList r249.toArray.toList = some (AC.ops ac49_r2) := by kernel_rfl
theorem p49_a : compOps Try.prog 19 (o49.take 6 ++ (o49[6]?.getD default) :: o49.drop 7) (o49.take 6) = some ac49_a := by kernel_rfl
theorem p49_b : compOps Try.prog 19 (o49.take 6 ++ (o49[6]?.getD default) :: o49.drop 7) (o49.drop 7) = some ac49_b := by kernel_rfl
end Go.Proofs.Ytiediojibljpiaa
