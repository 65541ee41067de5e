/- W2: joined from ZW2. -/
import Derived.Test.YtiediojibljpiaaVFnU
import Derived.Test.YtiediojibljpiaaVP8
/- The example's walk. -/
set_option maxRecDepth 10000
set_option linter.unusedSimpArgs false
set_option linter.unusedVariables false
namespace Go.Proofs.Ytiediojibljpiaa
open Go Go.Ab
theorem ans_false {es : List Eqn} {bs : List Bd} (h : UAns es bs false) : bs = [] := by cases h <;> rfl
theorem u1_ok : PCall Try.prog 9 [.list 6 (encQ es1)] (ansV bs1 true) := by
  obtain ⟨bs, ok, h, ha⟩ := unify_ans es1
  obtain ⟨rfl, rfl⟩ := es1_ans ha
  exact h
theorem u2_ok : PCall Try.prog 9 [.list 6 (encQ es2)] (ansV [] false) := by
  obtain ⟨bs, ok, h, ha⟩ := unify_ans es2
  obtain ⟨rfl, rfl⟩ := es2_ans ha
  exact h
end Go.Proofs.Ytiediojibljpiaa
