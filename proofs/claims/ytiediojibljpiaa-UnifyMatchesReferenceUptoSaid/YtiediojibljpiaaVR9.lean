/- R9: joined from ZR9. -/
import Derived.Test.YtiediojibljpiaaVFnU
import Derived.Test.YtiediojibljpiaaVR8
/- The reference: MostGeneralUnifier, the walk. -/
set_option maxRecDepth 10000
set_option linter.unusedSimpArgs false
set_option linter.unusedVariables false
namespace Go.Proofs.Ytiediojibljpiaa
open Go Go.Ab
def mR : Option (List Bd) → List Bd
  | none => []
  | some s => if s.all fun b => limT b.t then s else []
def mB : Option (List Bd) → Bool
  | none => false
  | some s => s.all fun b => limT b.t
set_option maxHeartbeats 4000000 in
theorem mgu_ok {es : List Eqn} {n : Nat} {o : Option (List Bd)} (hes : es.length ≤ 1000000000) (h : mgu n es [] = some o) : PCall Try.prog 11 [.list 6 (encQ es)] (ansV (mR o) (mB o)) := by
  refine PCall.intro (ps := [.list 4 (encB (mR o)), bb (mB o)]) fn11 (by simp [ansV]) ?_
  unfold ac11
  simp only [argFr]
  have h2 : (0 + es.length ≤ big) = True := by unfold big; simp; omega
  have h3 : (es.length ≤ big) = True := by unfold big; simp; omega
  (repeat' (first|((with_reducible refine aops_frzmov (d := 4) [] (.list 4 (encB [])) ?_ ?_);(focus (exact Vw_nil));simp only [frz, go_sem, updL, setAt, List.filterMap_cons, List.filterMap_nil, Option.map_some])|((with_reducible refine aops_frzmov (d := 5) [1] (.list 6 (encQ es)) ?_ ?_);(focus (exact row_E (xs := es) (by simp) rfl (by simp)));simp only [frz, go_sem, updL, setAt, List.filterMap_cons, List.filterMap_nil, Option.map_some])|((with_reducible first|refine qqT fun C hC=>?_|refine qqU fun C hC=>?_|intro C hC);simp only [go_sem, encQ_len, vcellsE, cellsE, List.length_map, h2, h3];((with_reducible first|refine finA hC ?_|refine finD hC ?_);clear hC C))|(with_reducible first|refine qqA fun K hK=>?_|refine qqB fun K hK=>?_|refine qqC fun K hK=>?_|(refine qqD ?_;refine hK _ _ ?_;try clear hK K)|(refine qqE ?_;refine hK _ _ _ ?_ ?_;(focus kernel_rfl);try clear hK K)|(refine qqF ?_;refine hK _ _ ?_;try clear hK K)|refine qqG ?_|refine qqH ?_|refine qqI ?_|refine qqJ ?_|refine qqK ?_|(refine qqL ?_;try clear hK K)|(refine qqM ?_;try clear hK K)|refine qqN ?_|refine qqO ?_|(refine qqP ?_ ?_;focus decide))|((with_reducible first|apply qqQ|apply qqR|apply qqS);focus (simp only [go_sem, encQ_len, vcellsE, cellsE, List.length_map, h2, h3];exact rfl))|(with_reducible first|refine gk_tt ?_|refine gk_ff ?_|refine ck_t ?_|refine ck_f ?_)|((with_reducible first|refine gk_tf ?_|refine gk_ft ?_|refine gk_u ?_|refine gk_u' ?_);first|(intro _ e;(first|rw [qqY] at e|rw [qqZ] at e);subst e)|(intro _ _ e e';(first|rw [qqY] at e|rw [qqZ] at e);subst e;subst e'))))
  refine awp_loop_k _ (LeB [] (by refine ⟨?_, ?_, ?_⟩ <;> simp only [leFr, leFb, leHp, V.ren, V.renL, V.bd, V.bdL, allL, lt, Go.Ab.get, hget, List.map_cons, List.map_nil, List.length_cons, List.length_nil, List.length_append, List.getElem?_cons_zero, List.getElem?_cons_succ, List.getElem?_nil, Option.join_some, Option.join_none, List.getD_cons_zero, List.getD_cons_succ, List.getD_nil, Nat.reduceAdd, Nat.reduceLT, Nat.reduceEqDiff, Nat.zero_add, reduceIte, if_true, if_false, and_true, true_and, renL_vcells, allL_vcells, renL_pv, leBlk_some, eq_self, true_or, or_true, reduceCtorEq, false_or])) (r_main (fun fr H ho g2 g3 => ?_) (fun fr s ho hsl hb g4 => hK _ _ ?_) n es [] (by simp) h)
  · subst ho
    have e1 : mR none = [] := rfl
    rw [e1]
    refine retP_ret (vs := [.pv (.lit (.slice none 0 0)), .pv (bb false)]) [] (by simp [resVs, resV, g2, g3]) (.cons _ _ _ _ Vw_nil (.cons _ _ _ _ (.pv _) .nil))
  · subst ho
    (repeat' (first|((with_reducible first|refine qqT fun C hC=>?_|refine qqU fun C hC=>?_|intro C hC);simp only [go_sem, g4, encB_len];((with_reducible first|refine finA hC ?_|refine finD hC ?_);clear hC C))|(with_reducible first|refine qqA fun K hK=>?_|refine qqB fun K hK=>?_|refine qqC fun K hK=>?_|(refine qqD ?_;refine hK _ _ ?_;try clear hK K)|(refine qqE ?_;refine hK _ _ _ ?_ ?_;(focus kernel_rfl);try clear hK K)|(refine qqF ?_;refine hK _ _ ?_;try clear hK K)|refine qqG ?_|refine qqH ?_|refine qqI ?_|refine qqJ ?_|refine qqK ?_|(refine qqL ?_;try clear hK K)|(refine qqM ?_;try clear hK K)|refine qqN ?_|refine qqO ?_|(refine qqP ?_ ?_;focus decide))|((with_reducible first|apply qqQ|apply qqR|apply qqS);focus (simp only [go_sem, g4, encB_len];exact rfl))|(with_reducible first|refine gk_tt ?_|refine gk_ff ?_|refine ck_t ?_|refine ck_f ?_)|((with_reducible first|refine gk_tf ?_|refine gk_ft ?_|refine gk_u ?_|refine gk_u' ?_);first|(intro _ e;(first|rw [qqY] at e|rw [qqZ] at e);subst e)|(intro _ _ e e';(first|rw [qqY] at e|rw [qqZ] at e);subst e;subst e'))))
    refine awp_loop_k _ (LeB [] (by refine ⟨?_, ?_, ?_⟩ <;> simp only [leFr, leFb, leHp, V.ren, V.renL, V.bd, V.bdL, allL, lt, Go.Ab.get, hget, List.map_cons, List.map_nil, List.length_cons, List.length_nil, List.length_append, List.getElem?_cons_zero, List.getElem?_cons_succ, List.getElem?_nil, Option.join_some, Option.join_none, List.getD_cons_zero, List.getD_cons_succ, List.getD_nil, Nat.reduceAdd, Nat.reduceLT, Nat.reduceEqDiff, Nat.zero_add, reduceIte, if_true, if_false, and_true, true_and, renL_vcells, allL_vcells, renL_pv, leBlk_some, eq_self, true_or, or_true, reduceCtorEq, false_or, c0, g4])) (r_lim (s := s) (by omega) hb (fun hl fr H g2 g3 => ?_) (fun fr hl g4 => hK _ _ ?_) s [] rfl rfl)
    · have e1 : mR (some s) = [] := by simp only [mR, hl]; rfl
      have e2 : mB (some s) = false := hl
      rw [e1, e2]
      refine retP_ret (vs := [.pv (.lit (.slice none 0 0)), .pv (bb false)]) [] (by simp [resVs, resV, g2, g3]) (.cons _ _ _ _ Vw_nil (.cons _ _ _ _ (.pv _) .nil))
    · have e1 : mR (some s) = s := by simp only [mR, hl, if_true]
      have e2 : mB (some s) = true := hl
      rw [e1, e2]
      (repeat' (first|((with_reducible first|refine qqT fun C hC=>?_|refine qqU fun C hC=>?_|intro C hC);simp only [go_sem, g4];((with_reducible first|refine finA hC ?_|refine finD hC ?_);clear hC C))|(with_reducible first|refine qqA fun K hK=>?_|refine qqB fun K hK=>?_|refine qqC fun K hK=>?_|(refine qqD ?_;refine hK _ _ ?_;try clear hK K)|(refine qqE ?_;refine hK _ _ _ ?_ ?_;(focus kernel_rfl);try clear hK K)|(refine qqF ?_;refine hK _ _ ?_;try clear hK K)|refine qqG ?_|refine qqH ?_|refine qqI ?_|refine qqJ ?_|refine qqK ?_|(refine qqL ?_;try clear hK K)|(refine qqM ?_;try clear hK K)|refine qqN ?_|refine qqO ?_|(refine qqP ?_ ?_;focus decide))|((with_reducible first|apply qqQ|apply qqR|apply qqS);focus (simp only [go_sem, g4];exact rfl))|(with_reducible first|refine gk_tt ?_|refine gk_ff ?_|refine ck_t ?_|refine ck_f ?_)|((with_reducible first|refine gk_tf ?_|refine gk_ft ?_|refine gk_u ?_|refine gk_u' ?_);first|(intro _ e;(first|rw [qqY] at e|rw [qqZ] at e);subst e)|(intro _ _ e e';(first|rw [qqY] at e|rw [qqZ] at e);subst e;subst e'))))
      (refine retP_ret (List.range 40) rfl ?_; exact vwA)
end Go.Proofs.Ytiediojibljpiaa
