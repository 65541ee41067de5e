/- W2: joined from ZW2. -/
import Derived.Test.YtiediojibljpiaaVFnU
import Derived.Test.YtiediojibljpiaaVP8
/- The example's walk. -/
set_option maxRecDepth 10000
set_option linter.unusedSimpArgs false
set_option linter.unusedVariables false
namespace Go.Proofs.Ytiediojibljpiaa
open Go Go.Ab
theorem ans_false {es : List Eqn} {bs : List Bd} (h : UAns es bs false) : bs = [] := by cases h <;> rfl
theorem u1_ok : PCall Try.prog 9 [.list 6 (encQ es1)] (ansV bs1 true) := by
  obtain ⟨bs, ok, h, ha⟩ := unify_ans es1
  obtain ⟨rfl, rfl⟩ := es1_ans ha
  exact h
theorem u2_ok : PCall Try.prog 9 [.list 6 (encQ es2)] (ansV [] false) := by
  obtain ⟨bs, ok, h, ha⟩ := unify_ans es2
  obtain ⟨rfl, rfl⟩ := es2_ans ha
  exact h
set_option maxHeartbeats 4000000 in
theorem works13 : PCall Try.prog 13 [] (bb true) := by
  have h1 := u1_ok
  have h2 := u2_ok
  have hb := eqb_ok bs1 bs1
  rw [eqB_self] at hb
  simp only [es1, es2, bs1, encQ, Eqn.enc, Ty.kd, Ty.id, Ty.args, encL, Ty.enc, List.map_cons, List.map_nil, ansV, encB, Bd.enc] at h1 h2 hb
  have c1 := typ_ok 9 0 [tV 1, tV 2]
  have c2 := typ_ok 9 0 [tI, tV 1]
  have c3 := typ_ok 8 0 [tV 0]
  simp only [encL, Ty.enc] at c1 c2 c3
  refine PCall.intro (ps := [bb true]) fn13 (by simp) ?_
  unfold ac13
  simp only [argFr]
  (repeat' (first|((first|(with_reducible refine qqV fun C hC=>?_)|(with_reducible refine qqW fun C hC=>?_)|((with_reducible intro C hC);(with_reducible refine qqX ?_)));(first|(simp only [go_sem, cells_enc, enc_eq, Ty.kd, Ty.id, Ty.args, encL, Ty.tc];(first|((with_reducible apply ACall.pure0 [] (tvar_ok 1));(focus (exact vwA)))|((with_reducible apply ACall.pure0 [] (tvar_ok 2));(focus (exact vwA)))|((with_reducible apply ACall.pure0 [] (tvar_ok 0));(focus (exact vwA)))|((with_reducible apply ACall.pure0 [] (tint_ok));(focus (exact vwA)))|((with_reducible apply ACall.pure0 [0] (c1));(focus (exact vwA)))|((with_reducible apply ACall.pure0 [1] (c2));(focus (exact vwA)))|((with_reducible apply ACall.pure0 [3] (c3));(focus (exact vwA)))|((with_reducible apply ACall.pure0 [2] (h1));(focus (exact vwA)))|((with_reducible apply ACall.pure0 [4] (h2));(focus (exact vwA)))|((with_reducible apply ACall.pure0 [5] (hb));(focus (exact vwA))))));(simp only [go_sem, cells_enc, enc_eq, Ty.kd, Ty.id, Ty.args, encL, Ty.tc]);((with_reducible first|refine finA hC ?_|refine finD hC ?_);clear hC C))|((with_reducible first|refine qqT fun C hC=>?_|refine qqU fun C hC=>?_|intro C hC);simp only [go_sem, cells_enc, enc_eq, Ty.kd, Ty.id, Ty.args, encL, Ty.tc];((with_reducible first|refine finA hC ?_|refine finD hC ?_);clear hC C))|(with_reducible first|refine qqA fun K hK=>?_|refine qqB fun K hK=>?_|refine qqC fun K hK=>?_|(refine qqD ?_;refine hK _ _ ?_;try clear hK K)|(refine qqE ?_;refine hK _ _ _ ?_ ?_;(focus kernel_rfl);try clear hK K)|(refine qqF ?_;refine hK _ _ ?_;try clear hK K)|refine qqG ?_|refine qqH ?_|refine qqI ?_|refine qqJ ?_|refine qqK ?_|(refine qqL ?_;try clear hK K)|(refine qqM ?_;try clear hK K)|refine qqN ?_|refine qqO ?_|(refine qqP ?_ ?_;focus decide))|((with_reducible first|apply qqQ|apply qqR|apply qqS);focus (simp only [go_sem, cells_enc, enc_eq, Ty.kd, Ty.id, Ty.args, encL, Ty.tc];exact rfl))|(with_reducible first|refine gk_tt ?_|refine gk_ff ?_|refine ck_t ?_|refine ck_f ?_)|((with_reducible first|refine gk_tf ?_|refine gk_ft ?_|refine gk_u ?_|refine gk_u' ?_);first|(intro _ e;(first|rw [qqY] at e|rw [qqZ] at e);subst e)|(intro _ _ e e';(first|rw [qqY] at e|rw [qqZ] at e);subst e;subst e'))))
  (refine retP_ret (List.range 40) rfl ?_; exact vwA)
end Go.Proofs.Ytiediojibljpiaa
