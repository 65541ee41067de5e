/- X7: joined from ZX7. -/
import Derived.Test.YtiediojibljpiaaVFnU
import Derived.Test.YtiediojibljpiaaVFnX
import Derived.Test.YtiediojibljpiaaVX6
/- UnifyOrderIndependent: the walk. -/
set_option maxRecDepth 10000
set_option linter.unusedSimpArgs false
set_option linter.unusedVariables false
namespace Go.Proofs.Ytiediojibljpiaa
open Go Go.Ab Go.RowKit
theorem vwW {p : Prop} (h : p := by (repeat (first | exact .nil | exact .nil _ | exact .pv _ | (refine .cons _ _ _ _ ?_ ?_) | (refine row_tv ?_ rfl rfl; (focus (decide)))))) : p := h
theorem back15 (es : List Eqn) : PCall Try.prog 15 [.list 6 (encQ es)] (.fn 49 [.rptr [.list 6 (encQ es)]]) := by
  refine PCall.intro (ps := [.fn 49 [.rptr [.list 6 (encQ es)]]]) fn15 (by simp) ?_
  unfold ac15
  simp only [argFr]
  (repeat' (first|((with_reducible first|refine qqT fun C hC=>?_|refine qqU fun C hC=>?_|intro C hC);simp only [go_sem];((with_reducible first|refine finA hC ?_|refine finD hC ?_);clear hC C))|(with_reducible first|refine qqA fun K hK=>?_|refine qqB fun K hK=>?_|refine qqC fun K hK=>?_|(refine qqD ?_;refine hK _ _ ?_;try clear hK K)|(refine qqE ?_;refine hK _ _ _ ?_ ?_;(focus kernel_rfl);try clear hK K)|(refine qqF ?_;refine hK _ _ ?_;try clear hK K)|refine qqG ?_|refine qqH ?_|refine qqI ?_|refine qqJ ?_|refine qqK ?_|(refine qqL ?_;try clear hK K)|(refine qqM ?_;try clear hK K)|refine qqN ?_|refine qqO ?_|(refine qqP ?_ ?_;focus decide))|((with_reducible first|apply qqQ|apply qqR|apply qqS);focus (simp only [go_sem];exact rfl))|(with_reducible first|refine gk_tt ?_|refine gk_ff ?_|refine ck_t ?_|refine ck_f ?_)|((with_reducible first|refine gk_tf ?_|refine gk_ft ?_|refine gk_u ?_|refine gk_u' ?_);first|(intro _ e;(first|rw [qqY] at e|rw [qqZ] at e);subst e)|(intro _ _ e e';(first|rw [qqY] at e|rw [qqZ] at e);subst e;subst e'))))
  (refine retP_ret (List.range 40) rfl ?_; (first | exact vwA | exact vwW))
def fr0 (es : List Eqn) : Fr := [(0, .pv (.list 6 (encQ es)))]
def fr1 (es : List Eqn) (bs : List Bd) (ok : Bool) : Fr := [(0, .pv (.list 6 (encQ es))), (3, .pv (.list 4 (encB bs))), (4, .pv (bb ok))]
def fr2 (es : List Eqn) (bs : List Bd) (ok : Bool) : Fr := [(0, .pv (.list 6 (encQ es))), (3, .pv (.list 4 (encB bs))), (4, .pv (bb ok)), (5, .ptr 0 0 0)]
def fr3 (es : List Eqn) (bs : List Bd) (ok : Bool) : Fr := [(3, .pv (.list 4 (encB bs))), (4, .pv (bb ok)), (5, .ptr 0 0 0), (25, .pv (.fn 49 [.rptr [.list 6 (encQ es)]]))]
def fr4 (bs : List Bd) (ok : Bool) : Fr := [(3, .pv (.list 4 (encB bs))), (4, .pv (bb ok)), (5, .ptr 0 0 0)]
def fr5 (bs us : List Bd) (ok ok' : Bool) : Fr := [(3, .pv (.list 4 (encB bs))), (4, .pv (bb ok)), (8, .pv (.list 4 (encB us))), (9, .pv (bb ok'))]
def H0 : Hp := [some ⟨false, 22, 1, [[.pv (.lit (.slice none 0 0))]], none⟩]
def QT : Post := fun e fr H => e = .ret ∧ Ab.get fr 2 = .pv (bb true)
theorem q0_ok (es : List Eqn) : awp Try.prog ac4_p0 (LeR (fr0 es) [] QT) (argFr 0 [.list 6 (encQ es)]) [] := by
  unfold ac4_p0
  simp only [argFr]
  (repeat' (first|((with_reducible first|refine qqT fun C hC=>?_|refine qqU fun C hC=>?_|intro C hC);simp only [go_sem];((with_reducible first|refine finA hC ?_|refine finD hC ?_);clear hC C))|(with_reducible first|refine qqA fun K hK=>?_|refine qqB fun K hK=>?_|refine qqC fun K hK=>?_|(refine qqD ?_;refine hK _ _ ?_;try clear hK K)|(refine qqE ?_;refine hK _ _ _ ?_ ?_;(focus kernel_rfl);try clear hK K)|(refine qqF ?_;refine hK _ _ ?_;try clear hK K)|refine qqG ?_|refine qqH ?_|refine qqI ?_|refine qqJ ?_|refine qqK ?_|(refine qqL ?_;try clear hK K)|(refine qqM ?_;try clear hK K)|refine qqN ?_|refine qqO ?_|(refine qqP ?_ ?_;focus decide))|((with_reducible first|apply qqQ|apply qqR|apply qqS);focus (simp only [go_sem];exact rfl))|(with_reducible first|refine gk_tt ?_|refine gk_ff ?_|refine ck_t ?_|refine ck_f ?_)|((with_reducible first|refine gk_tf ?_|refine gk_ft ?_|refine gk_u ?_|refine gk_u' ?_);first|(intro _ e;(first|rw [qqY] at e|rw [qqZ] at e);subst e)|(intro _ _ e e';(first|rw [qqY] at e|rw [qqZ] at e);subst e;subst e'))))
  exact .inl ⟨rfl, _, (LeB [] (by refine ⟨?_, ?_, ?_⟩ <;> simp only [leFr, leFb, leHp, V.ren, V.renL, V.bd, V.bdL, allL, lt, Go.Ab.get, hget, List.map_cons, List.map_nil, List.length_cons, List.length_nil, List.length_append, List.getElem?_cons_zero, List.getElem?_cons_succ, List.getElem?_nil, Option.join_some, Option.join_none, List.getD_cons_zero, List.getD_cons_succ, List.getD_nil, Nat.reduceAdd, Nat.reduceLT, Nat.reduceEqDiff, Nat.zero_add, reduceIte, if_true, if_false, and_true, true_and, renL_vcells, allL_vcells, renL_pv, leBlk_some, eq_self, true_or, or_true, reduceCtorEq, false_or, fr0]))⟩
theorem q1_ok (es : List Eqn) : awp Try.prog ac4_p1 (LeR (fr0 es) [] QT) (fr0 es) [] := by
  have hw := works13
  unfold ac4_p1 fr0
  (repeat' (first|((first|(with_reducible refine qqV fun C hC=>?_)|(with_reducible refine qqW fun C hC=>?_)|((with_reducible intro C hC);(with_reducible refine qqX ?_)));(first|(simp only [go_sem];(first|((with_reducible apply ACall.pure0 [] (hw));(focus ((first|exact vwA|exact vwW)))))));(simp only [go_sem]);((with_reducible first|refine finA hC ?_|refine finD hC ?_);clear hC C))|((with_reducible first|refine qqT fun C hC=>?_|refine qqU fun C hC=>?_|intro C hC);simp only [go_sem];((with_reducible first|refine finA hC ?_|refine finD hC ?_);clear hC C))|(with_reducible first|refine qqA fun K hK=>?_|refine qqB fun K hK=>?_|refine qqC fun K hK=>?_|(refine qqD ?_;refine hK _ _ ?_;try clear hK K)|(refine qqE ?_;refine hK _ _ _ ?_ ?_;(focus kernel_rfl);try clear hK K)|(refine qqF ?_;refine hK _ _ ?_;try clear hK K)|refine qqG ?_|refine qqH ?_|refine qqI ?_|refine qqJ ?_|refine qqK ?_|(refine qqL ?_;try clear hK K)|(refine qqM ?_;try clear hK K)|refine qqN ?_|refine qqO ?_|(refine qqP ?_ ?_;focus decide))|((with_reducible first|apply qqQ|apply qqR|apply qqS);focus (simp only [go_sem];exact rfl))|(with_reducible first|refine gk_tt ?_|refine gk_ff ?_|refine ck_t ?_|refine ck_f ?_)|((with_reducible first|refine gk_tf ?_|refine gk_ft ?_|refine gk_u ?_|refine gk_u' ?_);first|(intro _ e;(first|rw [qqY] at e|rw [qqZ] at e);subst e)|(intro _ _ e e';(first|rw [qqY] at e|rw [qqZ] at e);subst e;subst e'))))
  exact .inl ⟨rfl, _, (LeB [] (by refine ⟨?_, ?_, ?_⟩ <;> simp only [leFr, leFb, leHp, V.ren, V.renL, V.bd, V.bdL, allL, lt, Go.Ab.get, hget, List.map_cons, List.map_nil, List.length_cons, List.length_nil, List.length_append, List.getElem?_cons_zero, List.getElem?_cons_succ, List.getElem?_nil, Option.join_some, Option.join_none, List.getD_cons_zero, List.getD_cons_succ, List.getD_nil, Nat.reduceAdd, Nat.reduceLT, Nat.reduceEqDiff, Nat.zero_add, reduceIte, if_true, if_false, and_true, true_and, renL_vcells, allL_vcells, renL_pv, leBlk_some, eq_self, true_or, or_true, reduceCtorEq, false_or]))⟩
theorem q2_ok {es : List Eqn} {bs : List Bd} {ok : Bool} (hu : PCall Try.prog 9 [.list 6 (encQ es)] (ansV bs ok)) : awp Try.prog ac4_p2 (LeR (fr1 es bs ok) [] QT) (fr0 es) [] := by
  unfold ansV at hu
  unfold ac4_p2 fr0 fr1
  (repeat' (first|((first|(with_reducible refine qqV fun C hC=>?_)|(with_reducible refine qqW fun C hC=>?_)|((with_reducible intro C hC);(with_reducible refine qqX ?_)));(first|(simp only [go_sem];(first|((with_reducible apply ACall.pure0 [] (hu));(focus ((first|exact vwA|exact vwW)))))));(simp only [go_sem]);((with_reducible first|refine finA hC ?_|refine finD hC ?_);clear hC C))|((with_reducible first|refine qqT fun C hC=>?_|refine qqU fun C hC=>?_|intro C hC);simp only [go_sem];((with_reducible first|refine finA hC ?_|refine finD hC ?_);clear hC C))|(with_reducible first|refine qqA fun K hK=>?_|refine qqB fun K hK=>?_|refine qqC fun K hK=>?_|(refine qqD ?_;refine hK _ _ ?_;try clear hK K)|(refine qqE ?_;refine hK _ _ _ ?_ ?_;(focus kernel_rfl);try clear hK K)|(refine qqF ?_;refine hK _ _ ?_;try clear hK K)|refine qqG ?_|refine qqH ?_|refine qqI ?_|refine qqJ ?_|refine qqK ?_|(refine qqL ?_;try clear hK K)|(refine qqM ?_;try clear hK K)|refine qqN ?_|refine qqO ?_|(refine qqP ?_ ?_;focus decide))|((with_reducible first|apply qqQ|apply qqR|apply qqS);focus (simp only [go_sem];exact rfl))|(with_reducible first|refine gk_tt ?_|refine gk_ff ?_|refine ck_t ?_|refine ck_f ?_)|((with_reducible first|refine gk_tf ?_|refine gk_ft ?_|refine gk_u ?_|refine gk_u' ?_);first|(intro _ e;(first|rw [qqY] at e|rw [qqZ] at e);subst e)|(intro _ _ e e';(first|rw [qqY] at e|rw [qqZ] at e);subst e;subst e'))))
  exact .inl ⟨rfl, _, (LeB [] (by refine ⟨?_, ?_, ?_⟩ <;> simp only [leFr, leFb, leHp, V.ren, V.renL, V.bd, V.bdL, allL, lt, Go.Ab.get, hget, List.map_cons, List.map_nil, List.length_cons, List.length_nil, List.length_append, List.getElem?_cons_zero, List.getElem?_cons_succ, List.getElem?_nil, Option.join_some, Option.join_none, List.getD_cons_zero, List.getD_cons_succ, List.getD_nil, Nat.reduceAdd, Nat.reduceLT, Nat.reduceEqDiff, Nat.zero_add, reduceIte, if_true, if_false, and_true, true_and, renL_vcells, allL_vcells, renL_pv, leBlk_some, eq_self, true_or, or_true, reduceCtorEq, false_or]))⟩
/-- errors: the function returns -/
theorem q3a_ok {es : List Eqn} {bs : List Bd} {ok : Bool} (hq : es.any errQ = true) : awp Try.prog ac4_p3 QT (fr1 es bs ok) [] := by
  have hw := works13
  have he := err14 es
  unfold ac4_p3 fr1
  rw [hq] at he
  (repeat' (first|((first|(with_reducible refine qqV fun C hC=>?_)|(with_reducible refine qqW fun C hC=>?_)|((with_reducible intro C hC);(with_reducible refine qqX ?_)));(first|(simp only [go_sem];(first|((with_reducible apply ACall.pure0 [] (hw));(focus ((first|exact vwA|exact vwW))))|((with_reducible apply ACall.pure0 [] (he));(focus ((first|exact vwA|exact vwW)))))));(simp only [go_sem]);((with_reducible first|refine finA hC ?_|refine finD hC ?_);clear hC C))|((with_reducible first|refine qqT fun C hC=>?_|refine qqU fun C hC=>?_|intro C hC);simp only [go_sem];((with_reducible first|refine finA hC ?_|refine finD hC ?_);clear hC C))|(with_reducible first|refine qqA fun K hK=>?_|refine qqB fun K hK=>?_|refine qqC fun K hK=>?_|(refine qqD ?_;refine hK _ _ ?_;try clear hK K)|(refine qqE ?_;refine hK _ _ _ ?_ ?_;(focus kernel_rfl);try clear hK K)|(refine qqF ?_;refine hK _ _ ?_;try clear hK K)|refine qqG ?_|refine qqH ?_|refine qqI ?_|refine qqJ ?_|refine qqK ?_|(refine qqL ?_;try clear hK K)|(refine qqM ?_;try clear hK K)|refine qqN ?_|refine qqO ?_|(refine qqP ?_ ?_;focus decide))|((with_reducible first|apply qqQ|apply qqR|apply qqS);focus (simp only [go_sem];exact rfl))|(with_reducible first|refine gk_tt ?_|refine gk_ff ?_|refine ck_t ?_|refine ck_f ?_)|((with_reducible first|refine gk_tf ?_|refine gk_ft ?_|refine gk_u ?_|refine gk_u' ?_);first|(intro _ e;(first|rw [qqY] at e|rw [qqZ] at e);subst e)|(intro _ _ e e';(first|rw [qqY] at e|rw [qqZ] at e);subst e;subst e'))))
  exact ⟨rfl, rfl⟩
theorem q3_ok {es : List Eqn} {bs : List Bd} {ok : Bool} (hq : es.any errQ = false) : awp Try.prog ac4_p3 (LeR (fr1 es bs ok) [] QT) (fr1 es bs ok) [] := by
  have hw := works13
  have he := err14 es
  unfold ac4_p3 fr1
  rw [hq] at he
  (repeat' (first|((first|(with_reducible refine qqV fun C hC=>?_)|(with_reducible refine qqW fun C hC=>?_)|((with_reducible intro C hC);(with_reducible refine qqX ?_)));(first|(simp only [go_sem];(first|((with_reducible apply ACall.pure0 [] (hw));(focus ((first|exact vwA|exact vwW))))|((with_reducible apply ACall.pure0 [] (he));(focus ((first|exact vwA|exact vwW)))))));(simp only [go_sem]);((with_reducible first|refine finA hC ?_|refine finD hC ?_);clear hC C))|((with_reducible first|refine qqT fun C hC=>?_|refine qqU fun C hC=>?_|intro C hC);simp only [go_sem];((with_reducible first|refine finA hC ?_|refine finD hC ?_);clear hC C))|(with_reducible first|refine qqA fun K hK=>?_|refine qqB fun K hK=>?_|refine qqC fun K hK=>?_|(refine qqD ?_;refine hK _ _ ?_;try clear hK K)|(refine qqE ?_;refine hK _ _ _ ?_ ?_;(focus kernel_rfl);try clear hK K)|(refine qqF ?_;refine hK _ _ ?_;try clear hK K)|refine qqG ?_|refine qqH ?_|refine qqI ?_|refine qqJ ?_|refine qqK ?_|(refine qqL ?_;try clear hK K)|(refine qqM ?_;try clear hK K)|refine qqN ?_|refine qqO ?_|(refine qqP ?_ ?_;focus decide))|((with_reducible first|apply qqQ|apply qqR|apply qqS);focus (simp only [go_sem];exact rfl))|(with_reducible first|refine gk_tt ?_|refine gk_ff ?_|refine ck_t ?_|refine ck_f ?_)|((with_reducible first|refine gk_tf ?_|refine gk_ft ?_|refine gk_u ?_|refine gk_u' ?_);first|(intro _ e;(first|rw [qqY] at e|rw [qqZ] at e);subst e)|(intro _ _ e e';(first|rw [qqY] at e|rw [qqZ] at e);subst e;subst e'))))
  exact .inl ⟨rfl, _, (LeB [] (by refine ⟨?_, ?_, ?_⟩ <;> simp only [leFr, leFb, leHp, V.ren, V.renL, V.bd, V.bdL, allL, lt, Go.Ab.get, hget, List.map_cons, List.map_nil, List.length_cons, List.length_nil, List.length_append, List.getElem?_cons_zero, List.getElem?_cons_succ, List.getElem?_nil, Option.join_some, Option.join_none, List.getD_cons_zero, List.getD_cons_succ, List.getD_nil, Nat.reduceAdd, Nat.reduceLT, Nat.reduceEqDiff, Nat.zero_add, reduceIte, if_true, if_false, and_true, true_and, renL_vcells, allL_vcells, renL_pv, leBlk_some, eq_self, true_or, or_true, reduceCtorEq, false_or]))⟩
theorem q4_ok (es : List Eqn) (bs : List Bd) (ok : Bool) : awp Try.prog ac4_p4 (LeR (fr2 es bs ok) H0 QT) (fr1 es bs ok) [] := by
  unfold ac4_p4 fr1 fr2 H0
  (repeat' (first|((with_reducible first|refine qqT fun C hC=>?_|refine qqU fun C hC=>?_|intro C hC);simp only [go_sem];((with_reducible first|refine finA hC ?_|refine finD hC ?_);clear hC C))|(with_reducible first|refine qqA fun K hK=>?_|refine qqB fun K hK=>?_|refine qqC fun K hK=>?_|(refine qqD ?_;refine hK _ _ ?_;try clear hK K)|(refine qqE ?_;refine hK _ _ _ ?_ ?_;(focus kernel_rfl);try clear hK K)|(refine qqF ?_;refine hK _ _ ?_;try clear hK K)|refine qqG ?_|refine qqH ?_|refine qqI ?_|refine qqJ ?_|refine qqK ?_|(refine qqL ?_;try clear hK K)|(refine qqM ?_;try clear hK K)|refine qqN ?_|refine qqO ?_|(refine qqP ?_ ?_;focus decide))|((with_reducible first|apply qqQ|apply qqR|apply qqS);focus (simp only [go_sem];exact rfl))|(with_reducible first|refine gk_tt ?_|refine gk_ff ?_|refine ck_t ?_|refine ck_f ?_)|((with_reducible first|refine gk_tf ?_|refine gk_ft ?_|refine gk_u ?_|refine gk_u' ?_);first|(intro _ e;(first|rw [qqY] at e|rw [qqZ] at e);subst e)|(intro _ _ e e';(first|rw [qqY] at e|rw [qqZ] at e);subst e;subst e'))))
  exact .inl ⟨rfl, _, (LeB [0] (by refine ⟨?_, ?_, ?_⟩ <;> simp only [leFr, leFb, leHp, V.ren, V.renL, V.bd, V.bdL, allL, lt, Go.Ab.get, hget, List.map_cons, List.map_nil, List.length_cons, List.length_nil, List.length_append, List.getElem?_cons_zero, List.getElem?_cons_succ, List.getElem?_nil, Option.join_some, Option.join_none, List.getD_cons_zero, List.getD_cons_succ, List.getD_nil, Nat.reduceAdd, Nat.reduceLT, Nat.reduceEqDiff, Nat.zero_add, reduceIte, if_true, if_false, and_true, true_and, renL_vcells, allL_vcells, renL_pv, leBlk_some, eq_self, true_or, or_true, reduceCtorEq, false_or]))⟩
theorem q5_ok (es : List Eqn) (bs : List Bd) (ok : Bool) : awp Try.prog ac4_p5 (LeR (fr3 es bs ok) H0 QT) (fr2 es bs ok) H0 := by
  have hc := back15 es
  unfold ac4_p5 fr2 fr3 H0
  (repeat' (first|((first|(with_reducible refine qqV fun C hC=>?_)|(with_reducible refine qqW fun C hC=>?_)|((with_reducible intro C hC);(with_reducible refine qqX ?_)));(first|(simp only [go_sem];(first|((with_reducible apply ACall.pure0 [] (hc));(focus ((first|exact vwA|exact vwW)))))));(simp only [go_sem]);((with_reducible first|refine finA hC ?_|refine finD hC ?_);clear hC C))|((with_reducible first|refine qqT fun C hC=>?_|refine qqU fun C hC=>?_|intro C hC);simp only [go_sem];((with_reducible first|refine finA hC ?_|refine finD hC ?_);clear hC C))|(with_reducible first|refine qqA fun K hK=>?_|refine qqB fun K hK=>?_|refine qqC fun K hK=>?_|(refine qqD ?_;refine hK _ _ ?_;try clear hK K)|(refine qqE ?_;refine hK _ _ _ ?_ ?_;(focus kernel_rfl);try clear hK K)|(refine qqF ?_;refine hK _ _ ?_;try clear hK K)|refine qqG ?_|refine qqH ?_|refine qqI ?_|refine qqJ ?_|refine qqK ?_|(refine qqL ?_;try clear hK K)|(refine qqM ?_;try clear hK K)|refine qqN ?_|refine qqO ?_|(refine qqP ?_ ?_;focus decide))|((with_reducible first|apply qqQ|apply qqR|apply qqS);focus (simp only [go_sem];exact rfl))|(with_reducible first|refine gk_tt ?_|refine gk_ff ?_|refine ck_t ?_|refine ck_f ?_)|((with_reducible first|refine gk_tf ?_|refine gk_ft ?_|refine gk_u ?_|refine gk_u' ?_);first|(intro _ e;(first|rw [qqY] at e|rw [qqZ] at e);subst e)|(intro _ _ e e';(first|rw [qqY] at e|rw [qqZ] at e);subst e;subst e'))))
  exact .inl ⟨rfl, _, (LeB [0] (by refine ⟨?_, ?_, ?_⟩ <;> simp only [leFr, leFb, leHp, V.ren, V.renL, V.bd, V.bdL, allL, lt, Go.Ab.get, hget, List.map_cons, List.map_nil, List.length_cons, List.length_nil, List.length_append, List.getElem?_cons_zero, List.getElem?_cons_succ, List.getElem?_nil, Option.join_some, Option.join_none, List.getD_cons_zero, List.getD_cons_succ, List.getD_nil, Nat.reduceAdd, Nat.reduceLT, Nat.reduceEqDiff, Nat.zero_add, reduceIte, if_true, if_false, and_true, true_and, renL_vcells, allL_vcells, renL_pv, leBlk_some, eq_self, true_or, or_true, reduceCtorEq, false_or]))⟩
theorem q6_ok {bs us : List Bd} {ok ok' : Bool} {T : Nat × Nat × Nat} (rs : List Eqn) (hu : PCall Try.prog 9 [.list 6 (encQ rs)] (ansV us ok')) : awp Try.prog ac4_t0 (LeP (fr5 bs us ok ok') []) (fr4 bs ok) (Hc T rs) := by
  unfold ansV at hu
  unfold ac4_t0 fr4 fr5
  cases rs with
  | nil =>
    simp only [Hc]
    (repeat' (first|((first|(with_reducible refine qqV fun C hC=>?_)|(with_reducible refine qqW fun C hC=>?_)|((with_reducible intro C hC);(with_reducible refine qqX ?_)));(first|(simp only [go_sem];(first|((with_reducible apply ACall.pure0 [] (hu));(focus ((first|exact vwA|exact vwW)))))));(simp only [go_sem]);((with_reducible first|refine finA hC ?_|refine finD hC ?_);clear hC C))|((with_reducible first|refine qqT fun C hC=>?_|refine qqU fun C hC=>?_|intro C hC);simp only [go_sem];((with_reducible first|refine finA hC ?_|refine finD hC ?_);clear hC C))|(with_reducible first|refine qqA fun K hK=>?_|refine qqB fun K hK=>?_|refine qqC fun K hK=>?_|(refine qqD ?_;refine hK _ _ ?_;try clear hK K)|(refine qqE ?_;refine hK _ _ _ ?_ ?_;(focus kernel_rfl);try clear hK K)|(refine qqF ?_;refine hK _ _ ?_;try clear hK K)|refine qqG ?_|refine qqH ?_|refine qqI ?_|refine qqJ ?_|refine qqK ?_|(refine qqL ?_;try clear hK K)|(refine qqM ?_;try clear hK K)|refine qqN ?_|refine qqO ?_|(refine qqP ?_ ?_;focus decide))|((with_reducible first|apply qqQ|apply qqR|apply qqS);focus (simp only [go_sem];exact rfl))|(with_reducible first|refine gk_tt ?_|refine gk_ff ?_|refine ck_t ?_|refine ck_f ?_)|((with_reducible first|refine gk_tf ?_|refine gk_ft ?_|refine gk_u ?_|refine gk_u' ?_);first|(intro _ e;(first|rw [qqY] at e|rw [qqZ] at e);subst e)|(intro _ _ e e';(first|rw [qqY] at e|rw [qqZ] at e);subst e;subst e'))))
    exact ⟨rfl, _, (LeB [] (by refine ⟨?_, ?_, ?_⟩ <;> simp only [leFr, leFb, leHp, V.ren, V.renL, V.bd, V.bdL, allL, lt, Go.Ab.get, hget, List.map_cons, List.map_nil, List.length_cons, List.length_nil, List.length_append, List.getElem?_cons_zero, List.getElem?_cons_succ, List.getElem?_nil, Option.join_some, Option.join_none, List.getD_cons_zero, List.getD_cons_succ, List.getD_nil, Nat.reduceAdd, Nat.reduceLT, Nat.reduceEqDiff, Nat.zero_add, reduceIte, if_true, if_false, and_true, true_and, renL_vcells, allL_vcells, renL_pv, leBlk_some, eq_self, true_or, or_true, reduceCtorEq, false_or]))⟩
  | cons r rs =>
    simp only [Hc]
    (repeat' (first|((first|(with_reducible refine qqV fun C hC=>?_)|(with_reducible refine qqW fun C hC=>?_)|((with_reducible intro C hC);(with_reducible refine qqX ?_)));(first|(simp only [go_sem, row_tv];(first|((with_reducible apply ACall.pure0 [1] (hu));(focus ((first|exact vwA|exact vwW)))))));(simp only [go_sem, row_tv]);((with_reducible first|refine finA hC ?_|refine finD hC ?_);clear hC C))|((with_reducible first|refine qqT fun C hC=>?_|refine qqU fun C hC=>?_|intro C hC);simp only [go_sem, row_tv];((with_reducible first|refine finA hC ?_|refine finD hC ?_);clear hC C))|(with_reducible first|refine qqA fun K hK=>?_|refine qqB fun K hK=>?_|refine qqC fun K hK=>?_|(refine qqD ?_;refine hK _ _ ?_;try clear hK K)|(refine qqE ?_;refine hK _ _ _ ?_ ?_;(focus kernel_rfl);try clear hK K)|(refine qqF ?_;refine hK _ _ ?_;try clear hK K)|refine qqG ?_|refine qqH ?_|refine qqI ?_|refine qqJ ?_|refine qqK ?_|(refine qqL ?_;try clear hK K)|(refine qqM ?_;try clear hK K)|refine qqN ?_|refine qqO ?_|(refine qqP ?_ ?_;focus decide))|((with_reducible first|apply qqQ|apply qqR|apply qqS);focus (simp only [go_sem, row_tv];exact rfl))|(with_reducible first|refine gk_tt ?_|refine gk_ff ?_|refine ck_t ?_|refine ck_f ?_)|((with_reducible first|refine gk_tf ?_|refine gk_ft ?_|refine gk_u ?_|refine gk_u' ?_);first|(intro _ e;(first|rw [qqY] at e|rw [qqZ] at e);subst e)|(intro _ _ e e';(first|rw [qqY] at e|rw [qqZ] at e);subst e;subst e'))))
    exact ⟨rfl, _, (LeB [] (by refine ⟨?_, ?_, ?_⟩ <;> simp only [leFr, leFb, leHp, V.ren, V.renL, V.bd, V.bdL, allL, lt, Go.Ab.get, hget, List.map_cons, List.map_nil, List.length_cons, List.length_nil, List.length_append, List.getElem?_cons_zero, List.getElem?_cons_succ, List.getElem?_nil, Option.join_some, Option.join_none, List.getD_cons_zero, List.getD_cons_succ, List.getD_nil, Nat.reduceAdd, Nat.reduceLT, Nat.reduceEqDiff, Nat.zero_add, reduceIte, if_true, if_false, and_true, true_and, renL_vcells, allL_vcells, renL_pv, leBlk_some, eq_self, true_or, or_true, reduceCtorEq, false_or]))⟩
theorem q7_ok {bs : List Bd} {ok : Bool} : awp Try.prog ac4_t1 (LeP [(2, .pv (bb true))] []) (fr5 bs bs ok ok) [] := by
  have hb := eqb_ok bs bs
  rw [eqB_self] at hb
  unfold ac4_t1 fr5
  cases ok with
  | true =>
    (repeat' (first|((first|(with_reducible refine qqV fun C hC=>?_)|(with_reducible refine qqW fun C hC=>?_)|((with_reducible intro C hC);(with_reducible refine qqX ?_)));(first|(simp only [go_sem, beq_self_eq_true];(first|((with_reducible apply ACall.pure0 [] (hb));(focus ((first|exact vwA|exact vwW)))))));(simp only [go_sem, beq_self_eq_true]);((with_reducible first|refine finA hC ?_|refine finD hC ?_);clear hC C))|((with_reducible first|refine qqT fun C hC=>?_|refine qqU fun C hC=>?_|intro C hC);simp only [go_sem, beq_self_eq_true];((with_reducible first|refine finA hC ?_|refine finD hC ?_);clear hC C))|(with_reducible first|refine qqA fun K hK=>?_|refine qqB fun K hK=>?_|refine qqC fun K hK=>?_|(refine qqD ?_;refine hK _ _ ?_;try clear hK K)|(refine qqE ?_;refine hK _ _ _ ?_ ?_;(focus kernel_rfl);try clear hK K)|(refine qqF ?_;refine hK _ _ ?_;try clear hK K)|refine qqG ?_|refine qqH ?_|refine qqI ?_|refine qqJ ?_|refine qqK ?_|(refine qqL ?_;try clear hK K)|(refine qqM ?_;try clear hK K)|refine qqN ?_|refine qqO ?_|(refine qqP ?_ ?_;focus decide))|((with_reducible first|apply qqQ|apply qqR|apply qqS);focus (simp only [go_sem, beq_self_eq_true];exact rfl))|(with_reducible first|refine gk_tt ?_|refine gk_ff ?_|refine ck_t ?_|refine ck_f ?_)|((with_reducible first|refine gk_tf ?_|refine gk_ft ?_|refine gk_u ?_|refine gk_u' ?_);first|(intro _ e;(first|rw [qqY] at e|rw [qqZ] at e);subst e)|(intro _ _ e e';(first|rw [qqY] at e|rw [qqZ] at e);subst e;subst e'))))
    exact ⟨rfl, _, (LeB [] (by refine ⟨?_, ?_, ?_⟩ <;> simp only [leFr, leFb, leHp, V.ren, V.renL, V.bd, V.bdL, allL, lt, Go.Ab.get, hget, List.map_cons, List.map_nil, List.length_cons, List.length_nil, List.length_append, List.getElem?_cons_zero, List.getElem?_cons_succ, List.getElem?_nil, Option.join_some, Option.join_none, List.getD_cons_zero, List.getD_cons_succ, List.getD_nil, Nat.reduceAdd, Nat.reduceLT, Nat.reduceEqDiff, Nat.zero_add, reduceIte, if_true, if_false, and_true, true_and, renL_vcells, allL_vcells, renL_pv, leBlk_some, eq_self, true_or, or_true, reduceCtorEq, false_or]))⟩
  | false =>
    (repeat' (first|((first|(with_reducible refine qqV fun C hC=>?_)|(with_reducible refine qqW fun C hC=>?_)|((with_reducible intro C hC);(with_reducible refine qqX ?_)));(first|(simp only [go_sem, beq_self_eq_true];(first|((with_reducible apply ACall.pure0 [] (hb));(focus ((first|exact vwA|exact vwW)))))));(simp only [go_sem, beq_self_eq_true]);((with_reducible first|refine finA hC ?_|refine finD hC ?_);clear hC C))|((with_reducible first|refine qqT fun C hC=>?_|refine qqU fun C hC=>?_|intro C hC);simp only [go_sem, beq_self_eq_true];((with_reducible first|refine finA hC ?_|refine finD hC ?_);clear hC C))|(with_reducible first|refine qqA fun K hK=>?_|refine qqB fun K hK=>?_|refine qqC fun K hK=>?_|(refine qqD ?_;refine hK _ _ ?_;try clear hK K)|(refine qqE ?_;refine hK _ _ _ ?_ ?_;(focus kernel_rfl);try clear hK K)|(refine qqF ?_;refine hK _ _ ?_;try clear hK K)|refine qqG ?_|refine qqH ?_|refine qqI ?_|refine qqJ ?_|refine qqK ?_|(refine qqL ?_;try clear hK K)|(refine qqM ?_;try clear hK K)|refine qqN ?_|refine qqO ?_|(refine qqP ?_ ?_;focus decide))|((with_reducible first|apply qqQ|apply qqR|apply qqS);focus (simp only [go_sem, beq_self_eq_true];exact rfl))|(with_reducible first|refine gk_tt ?_|refine gk_ff ?_|refine ck_t ?_|refine ck_f ?_)|((with_reducible first|refine gk_tf ?_|refine gk_ft ?_|refine gk_u ?_|refine gk_u' ?_);first|(intro _ e;(first|rw [qqY] at e|rw [qqZ] at e);subst e)|(intro _ _ e e';(first|rw [qqY] at e|rw [qqZ] at e);subst e;subst e'))))
    exact ⟨rfl, _, (LeB [] (by refine ⟨?_, ?_, ?_⟩ <;> simp only [leFr, leFb, leHp, V.ren, V.renL, V.bd, V.bdL, allL, lt, Go.Ab.get, hget, List.map_cons, List.map_nil, List.length_cons, List.length_nil, List.length_append, List.getElem?_cons_zero, List.getElem?_cons_succ, List.getElem?_nil, Option.join_some, Option.join_none, List.getD_cons_zero, List.getD_cons_succ, List.getD_nil, Nat.reduceAdd, Nat.reduceLT, Nat.reduceEqDiff, Nat.zero_add, reduceIte, if_true, if_false, and_true, true_and, renL_vcells, allL_vcells, renL_pv, leBlk_some, eq_self, true_or, or_true, reduceCtorEq, false_or]))⟩
theorem f4_at : Try.prog.funcs[4]? = some Try.f4 := by kernel_rfl
theorem f4_n : Try.f4.ntmps = 49 := by kernel_rfl
theorem f4_r : Try.f4.results = #[.tmp 2] := by kernel_rfl
theorem f4_e : Ab.Enters Try.prog 4 := ⟨_, f4_at, by kernel_rfl, by kernel_rfl⟩
theorem f49_b : ¬ Try.f49.body = none := fun h => by rw [body49] at h; cases h
theorem f49_nm : ¬ Try.f49.name = "runtime.NumGoroutine" := by
  have : (Try.f49.name == "runtime.NumGoroutine") = false := by kernel_rfl
  simpa using this
theorem mix : Try.prog.follows .mixedOrders = true := by kernel_rfl
theorem code_ret {n : Nat} {P : Program} (hm : P.follows .mixedOrders = true) {N : Nat} {c : Code} {ac : AC} {fr : Fr} {H : Hp} {Qr : Fr → Hp → Prop} {G : Gh} {a : Act} {w : World} {Q : Exit → Act → World → Prop}
    (hc : compCode P N c = some ac) (hA : awp P ac (fun e fr H => e = .ret ∧ Qr fr H) fr H) (st : ASt N G fr H a w)
    (hR : ∀ G' fr' H' a' w', Qr fr' H' → ASt N G' fr' H' a' w' → Tr G (hget H) w G' (hget H') w' → Q .ret a' w') : c.wpIn (FW none) n P Q a w := by
  refine wpIn_wide.2 (wp_mono (awp_sound hm c ac hc _ _ _ hA G a w st) fun e a' w' ⟨G', fr', H', hq, st', tr'⟩ => ?_)
  obtain ⟨rfl, hq⟩ := hq
  exact hR G' fr' H' a' w' hq st' tr'
/-- what is carried through the walk -/
structure Ch (n0 : Nat) (w0 : World) (I : Imm) (G : Gh) (H : Hp) (w : World) : Prop where
  lo : Lo n0 G (hget H)
  b : Below n0 w0 w
  I : I.le G.I
  sz : n0 ≤ w.heap.size
theorem Ch.tr {n0 : Nat} {w0 w w' : World} {I : Imm} {G G' : Gh} {H H' : Hp} (c : Ch n0 w0 I G H w) (t : Tr G (hget H) w G' (hget H') w') : Ch n0 w0 I G' H' w' :=
  ⟨tr_lo t c.lo c.sz, c.b.trans (tr_below t c.lo c.sz), c.I.trans t.I, Nat.le_trans c.sz t.size⟩
def RT (I : Imm) (w0 : World) : Ending → World → Prop := fun e w' => ∃ u J, e = .returned u ∧ I.le J ∧ (∀ a v, J a = some v → a.block < w0.heap.size → I a = some v) ∧ ImmOk J w' ∧ RP J (bb true) u ∧ Below w0.heap.size w0 w'
theorem rt_ok {I : Imm} {w0 w : World} {G : Gh} {fr : Fr} {H : Hp} {a : Act} (hI : Laid I) (st : ASt 49 G fr H a w) (h : Ab.get fr 2 = .pv (bb true)) (c : Ch w0.heap.size w0 I G H w) :
    ∃ v, (results Try.f4 a.tmps).run Try.prog w = .ok v w ∧ RT I w0 (.returned v) w := by
  have h2 := st.fr 2
  rw [h] at h2
  simp only [R, RP, bb] at h2
  refine ⟨.bool true, ?_, _, I, rfl, Imm.le.refl _, fun _ _ h _ => h, ⟨fun a v e => st.rel.imm.ok a v (c.I a v e), hI⟩, by simp only [RP, bb], c.b⟩
  have h3 : a.tmps[2]?.getD undef = .bool true := by simpa using h2
  simp [results, f4_r, h3, Sem.run_bind, Sem.run_pure, Result.andThen]
set_option maxHeartbeats 4000000 in
theorem f4_ok (es : List Eqn) (hbig : es.length ≤ big) : PCall Try.prog 4 [.list 6 (encQ es)] (bb true) := by
  obtain ⟨bs, ok, hu, ha⟩ := unify_ans es
  refine ⟨f4_e, fun I w0 us0 hI0 hus0 => ?_⟩
  show Calls Try.prog 4 us0.toArray w0 (RT I w0)
  have fin : ∀ (n : Nat) (G : Gh) (fr : Fr) (H : Hp) (a : Act) (w : World), ASt 49 G fr H a w → Ab.get fr 2 = .pv (bb true) → Ch w0.heap.size w0 I G H w → bodyPostM (FW none) n Try.prog Try.f4 (RT I w0) .ret a w := fun n G fr H a w st h c => by
    show LeavesInM _ _ _ _ _ _ _ _ _
    rw [st.defers]
    exact rt_ok hI0.laid st h c
  refine (callsIn_wide (n := 1)).1 (callsIn_of_wp_marks (F := FW none) (n := 1) f4_at body4 trivial ?_)
  rw [f4_n]
  have st0 := st_pure (N := 49) (by simp) (rel_nil hI0) hus0
  have c0 : Ch w0.heap.size w0 I ⟨fun _ => 0, fun _ => 0, fun _ => 0, I⟩ [] w0 := ⟨fun b k e => by simp [hget] at e, Below.refl _ _, fun a v h => h, Nat.le_refl _⟩
  refine wpIn_seq (code_in mix p4_0 (q0_ok es) st0 (fun G1 a1 w1 st1 tr1 => ?_) fun G fr H a w q st tr => fin _ _ _ _ _ _ st q.2 (c0.tr tr))
  have c1 := c0.tr tr1
  refine wpIn_seq (code_in mix p4_1 (q1_ok es) st1 (fun G2 a2 w2 st2 tr2 => ?_) fun G fr H a w q st tr => fin _ _ _ _ _ _ st q.2 (c1.tr tr))
  have c2 := c1.tr tr2
  refine wpIn_seq (code_in mix p4_2 (q2_ok hu) st2 (fun G3 a3 w3 st3 tr3 => ?_) fun G fr H a w q st tr => fin _ _ _ _ _ _ st q.2 (c2.tr tr))
  have c3 := c2.tr tr3
  cases hq : es.any errQ with
  | true =>
    exact wpIn_seq (code_ret (Qr := fun fr _ => Ab.get fr 2 = .pv (bb true)) mix p4_3 (q3a_ok hq) st3 fun G fr H a w q st tr => fin _ _ _ _ _ _ st q (c3.tr tr))
  | false =>
  refine wpIn_seq (code_in mix p4_3 (q3_ok hq) st3 (fun G4 a4 w4 st4 tr4 => ?_) fun G fr H a w q st tr => fin _ _ _ _ _ _ st q.2 (c3.tr tr))
  have c4 := c3.tr tr4
  refine wpIn_seq (code_in mix p4_4 (q4_ok es bs ok) st4 (fun G5 a5 w5 st5 tr5 => ?_) fun G fr H a w q st tr => fin _ _ _ _ _ _ st q.2 (c4.tr tr))
  have c5 := c4.tr tr5
  refine wpIn_seq (wpIn_seq (code_in mix p4_5 (q5_ok es bs ok) st5 (fun G6 a6 w6 st6 tr6 => ?_) fun G fr H a w q st tr => fin _ _ _ _ _ _ st q.2 (c5.tr tr)))
  have c6 := c5.tr tr6
  obtain ⟨us, e25, hus⟩ : ∃ us, a6.eval (.tmp 25) = .func (.func 49) #[] us ∧ RPL G6.I [.rptr [.list 6 (encQ es)]] us.toList := by
    have := st6.fr 25
    simp [fr3, Ab.get, R, RP] at this
    simpa [Act.eval] using this
  refine wpIn_block (wpIn_rangeFunc fun fn hfn => ?_)
  have hlt0 : lt H0 0 := by simp [lt, H0]
  have rel6 : Rel (lt (Hc (G6.φ 0, G6.κ 0, G6.σ 0) [])) G6 (hget (Hc (G6.φ 0, G6.κ 0, G6.σ 0) [])) w6 := rel_tag st6.rel
  have lo6 : Lo w0.heap.size G6 (hget (Hc (G6.φ 0, G6.κ 0, G6.σ 0) [])) := fun b k e => by
    cases b with
    | zero => exact c6.lo 0 _ rfl
    | succ b => simp [hget, Hc] at e
  have e5 : a6.tmps.getD 5 undef = .pointer (some ⟨G6.φ 0, 0, none⟩) := by
    have := st6.fr 5
    simpa [fr3, Ab.get, R] using this
  obtain ⟨W1, hW1⟩ : ∃ W1, (w6.alloc (.deferred (some []))).alloc (.loop (recL fn a6.tmps w6.heap.size .ready none)) = W1 := ⟨_, rfl⟩
  have hL1 : W1.heap[w6.heap.size + 1]? = some (.loop (recL fn a6.tmps w6.heap.size .ready none)) := by
    rw [← hW1]; have := World.alloc_heap_new (w6.alloc (.deferred (some []))) (.loop (recL fn a6.tmps w6.heap.size .ready none)); rwa [World.size_alloc] at this
  have hK1 : W1.heap[w6.heap.size]? = some (.deferred (some [])) := by
    rw [← hW1]; exact (Below.heap_alloc _ _ _ (by simp)).trans (World.alloc_heap_new w6 _)
  have hb1 : Below w0.heap.size w0 W1 := by
    rw [← hW1]
    exact (c6.b.alloc c6.sz _).alloc (by have := c6.sz; simp; omega) _
  have hsz1 : w0.heap.size ≤ W1.heap.size := hb1.size
  have J1 : Jt (G6.φ 0, G6.κ 0, G6.σ 0) w0.heap.size (w6.heap.size + 1) w6.heap.size fn a6.tmps [] G6 W1 :=
    ⟨by rw [← hW1]; exact rel_alloc _ (rel_alloc _ rel6), lo6, hL1, hK1, hsz1, by have := c6.sz; omega⟩
  refine ⟨w6.heap.size + 1, [{ target := .collected w6.heap.size, args := #[] }], W1, { target := .fn (.func 49) us, args := #[.func (.yield (w6.heap.size + 1)) #[] #[]] }, W1, 49,
    #[.func (.yield (w6.heap.size + 1)) #[] #[]] ++ us, W1, ?_, ?_, ?_, ?_, fun _ => Nat.le_refl 1, ?_⟩
  · rw [← hW1]; exact run_enterLoop_outer _ _ _ _ _
  · simp only [resolve, e25]
    simp [go_sem]
  · intro f' hf'; trivial
  · simp [invoke, callFunc, f49_at, f49_b, f49_nm]
  have hit := it_ok (m := 0) hbig st6.size e5 hus J1
  rw [Array.toArray_toList] at hit
  refine hit.mono ?_
  rintro en W2 ⟨⟨v, rfl⟩, G7, J7, hle7, hb7⟩
  refine ⟨none, _, run_endLoop J7.loop (by simp [recL]), ?_⟩
  show (Code.seq (.region 10 t04.toArray false) (.seq (.region 11 t14.toArray false) .ret)).wpIn (FW none) 1 Try.prog (bodyPostM (FW none) 1 Try.prog Try.f4 (RT I w0)) { a6 with defers := [{ target := .collected w6.heap.size, args := #[] }] ++ a6.defers } _
  rw [st6.defers]
  obtain ⟨us', ok', hu', ha'⟩ := unify_ans (es.reverse.map RQ)
  obtain ⟨rfl, rfl⟩ := law30 (err_ne hq) ha ha'
  generalize hw3 : (W2.putObj (w6.heap.size + 1) (.loop { recL fn a6.tmps w6.heap.size .ready none with state := .exhausted })) = W3
  have hne : w6.heap.size ≠ w6.heap.size + 1 := by omega
  have hD3 : W3.heap[w6.heap.size]? = some (.deferred (some [])) := by rw [← hw3]; exact (World.putObj_heap_other hne).trans J7.dfr
  have rel7 : Rel (lt (Hc (G6.φ 0, G6.κ 0, G6.σ 0) (es.reverse.map RQ))) G7 (hget (Hc (G6.φ 0, G6.κ 0, G6.σ 0) (es.reverse.map RQ))) W3 := by rw [← hw3]; exact rel_putObj _ J7.rel J7.loop rfl
  have hb3 : Below w0.heap.size w0 W3 := by rw [← hw3]; exact (hb1.trans hb7).trans (below_putObj _ J7.loop J7.nl)
  have c7 : Ch w0.heap.size w0 I G7 (Hc (G6.φ 0, G6.κ 0, G6.σ 0) (es.reverse.map RQ)) W3 := ⟨J7.lo, hb3, c6.I.trans hle7, hb3.size⟩
  have st7 : ASt 49 G7 (fr4 bs ok) (Hc (G6.φ 0, G6.κ 0, G6.σ 0) (es.reverse.map RQ)) a6 W3 := by
    refine ⟨rel7, fun t => ?_, fun t => ?_, st6.size, st6.defers⟩
    · by_cases h3 : t = 3
      · subst h3
        have := st6.fr 3
        simp only [fr3, fr4, Ab.get, if_true, R] at this ⊢
        exact RP_mono hle7 _ _ this
      · by_cases h4 : t = 4
        · subst h4
          have := st6.fr 4
          simp only [fr3, fr4, Ab.get, R] at this ⊢
          exact RP_mono hle7 _ _ this
        · by_cases h5 : t = 5
          · subst h5
            simp only [fr4, Ab.get, R]
            simp [e5, R, hc_phi J7.rel]
          · simp [fr4, Ab.get, R, Ne.symm h3, Ne.symm h4, Ne.symm h5]
    · by_cases h3 : t = 3
      · subst h3; simp [fr4, Ab.get, V.bd]
      · by_cases h4 : t = 4
        · subst h4; simp [fr4, Ab.get, V.bd]
        · by_cases h5 : t = 5
          · subst h5; simp [fr4, Ab.get, V.bd]; exact hc_lt _ _
          · simp [fr4, Ab.get, V.bd, Ne.symm h3, Ne.symm h4, Ne.symm h5]
  refine wpIn_seq (reg_le (ro := none) (ds := [{ target := .collected w6.heap.size, args := #[] }]) p4_t0 (q6_ok (bs := bs) (ok := ok) _ hu') st7 fun G8 a8 w8 st8 tr8 => ?_)
  have c8 := c7.tr tr8
  have hD8 := tr_keep tr8 rel7 hD3 rfl
  refine wpIn_seq (reg_le (ro := none) (ds := [{ target := .collected w6.heap.size, args := #[] }]) p4_t1 q7_ok st8 fun G9 a9 w9 st9 tr9 => ?_)
  have c9 := c8.tr tr9
  have hD9 := tr_keep tr9 st8.rel hD8 rfl
  refine wpIn_ret ?_
  show LeavesInM (FW none) 1 Try.prog Try.f4 a9.tmps (RT I w0) [{ target := .collected w6.heap.size, args := #[] }] .returning w9
  unfold LeavesInM
  refine ⟨by simp, .inl ⟨w6.heap.size, _, rfl, run_takeDeferred hD9, ?_⟩⟩
  have st10 : ASt 49 G9 [(2, .pv (bb true))] [] a9 (w9.putObj w6.heap.size (.deferred none)) := ⟨rel_putObj _ st9.rel hD9 rfl, st9.fr, st9.bd, st9.size, st9.defers⟩
  exact rt_ok hI0.laid st10 rfl ⟨c9.lo, c9.b.trans (below_putObj _ hD9 c6.sz), c9.I, by have := c9.sz; simpa using this⟩
end Go.Proofs.Ytiediojibljpiaa
