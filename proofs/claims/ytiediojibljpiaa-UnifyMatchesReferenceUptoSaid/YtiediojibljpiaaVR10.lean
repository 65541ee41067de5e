/- R10: joined from ZR10. -/
import Derived.Test.YtiediojibljpiaaVFnU
import Derived.Test.YtiediojibljpiaaVR9
import Derived.Test.YtiediojibljpiaaVA5
/- UnifyMatchesReference: the walk. -/
set_option maxRecDepth 10000
set_option linter.unusedSimpArgs false
set_option linter.unusedVariables false
namespace Go.Proofs.Ytiediojibljpiaa
open Go Go.Ab
theorem encQ_take (es : List Eqn) (n : Nat) : (encQ es).take n = encQ (es.take n) := by unfold encQ; rw [List.map_take]
set_option maxHeartbeats 4000000 in
/-- the loop over the equations: are all valid? -/
theorem f3_rows {qs : List Eqn} {bs : List Bd} {ok : Bool} (hqs : qs.length ≤ 1000) (hn : ∀ e ∈ qs, nds e.l ≤ 900000000000000 ∧ nds e.r ≤ 900000000000000) (hbad : qs.any badQ = true → bs = [] ∧ ok = false) {K : Fr → Hp → Prop}
    (hN : ∀ fr, qs.any badQ = false → Ab.get fr 0 = .pv (.list 6 (encQ qs)) → Ab.get fr 3 = .pv (.list 4 (encB bs)) → Ab.get fr 4 = .pv (bb ok) → K fr []) :
    ∀ (rest pre : List Eqn), pre ++ rest = qs → pre.any badQ = false → loopN (awp Try.prog ac3_l0) (catch_ 0 (thn K (retP [RV.tmp 2] [bb true]))) (rest.length + 1)
      [(23, .pv (ii pre.length)), (22, .pv (ii qs.length)), (21, .pv (.list 6 (encQ qs))), (0, .pv (.list 6 (encQ qs))), (3, .pv (.list 4 (encB bs))), (4, .pv (bb ok))] [] := by
  intro rest
  induction rest with
  | nil =>
    intro pre hpre hp
    have hpre : pre = qs := by simpa using hpre
    subst hpre
    refine loopN_k fun K1 hK1 => ?_
    unfold ac3_l0
    (repeat' (first|((with_reducible first|refine qqT fun C hC=>?_|refine qqU fun C hC=>?_|intro C hC);simp only [go_sem, lt_end];((with_reducible first|refine finA hC ?_|refine finD hC ?_);clear hC C))|(with_reducible first|refine qqA fun K hK=>?_|refine qqB fun K hK=>?_|refine qqC fun K hK=>?_|(refine qqD ?_;refine hK _ _ ?_;try clear hK K)|(refine qqE ?_;refine hK _ _ _ ?_ ?_;(focus kernel_rfl);try clear hK K)|(refine qqF ?_;refine hK _ _ ?_;try clear hK K)|refine qqG ?_|refine qqH ?_|refine qqI ?_|refine qqJ ?_|refine qqK ?_|(refine qqL ?_;try clear hK K)|(refine qqM ?_;try clear hK K)|refine qqN ?_|refine qqO ?_|(refine qqP ?_ ?_;focus decide))|((with_reducible first|apply qqQ|apply qqR|apply qqS);focus (simp only [go_sem, lt_end];exact rfl))|(with_reducible first|refine gk_tt ?_|refine gk_ff ?_|refine ck_t ?_|refine ck_f ?_)|((with_reducible first|refine gk_tf ?_|refine gk_ft ?_|refine gk_u ?_|refine gk_u' ?_);first|(intro _ e;(first|rw [qqY] at e|rw [qqZ] at e);subst e)|(intro _ _ e e';(first|rw [qqY] at e|rw [qqZ] at e);subst e;subst e'))))
    exact hN _ hp rfl rfl rfl
  | cons e rest ih =>
    intro pre hpre hp
    have hlt : decide ((pre.length : Int) < (qs.length : Int)) = true := by rw [← hpre]; exact lt_app _ _ _
    have hat : (encQ qs)[pre.length]? = some e.enc := by rw [← hpre]; exact encQ_at _ _ _
    have hb : pre.length + 1 ≤ big := by have := congrArg List.length hpre; simp at this; unfold big; omega
    have hne := hn e (by rw [← hpre]; simp)
    have h1 := err_ok e.l hne.1
    have h2 := err_ok e.r hne.2
    rw [← val_err] at h1 h2
    have hw := wrapS (n := pre.length) (by unfold big at hb; omega)
    have hz : (((0 : Nat) : Int) == 0) = true := rfl
    have hany : badQ e = true → qs.any badQ = true := fun h => by rw [List.any_eq_true]; exact ⟨e, by rw [← hpre]; simp, h⟩
    refine loopN_k fun K1 hK1 => ?_
    unfold ac3_l0
    cases v1 : (valT e.l != 0) with
    | true =>
      obtain ⟨hb0, hok⟩ := hbad (hany (by unfold badQ; rw [v1]; rfl))
      subst hb0 hok
      have e0 : encB [] = [] := rfl
      rw [e0]
      (repeat' (first|((first|(with_reducible refine qqV fun C hC=>?_)|(with_reducible refine qqW fun C hC=>?_)|((with_reducible intro C hC);(with_reducible refine qqX ?_)));(first|(simp only [go_sem, hlt, hat, cells_eqn, pcells_eqn, v1, hz];(first|((with_reducible apply ACall.pure0 [] (h1));(focus (exact vwA)))|((with_reducible apply ACall.pure0 [] (h2));(focus (exact vwA))))));(simp only [go_sem, hlt, hat, cells_eqn, pcells_eqn, v1, hz]);((with_reducible first|refine finA hC ?_|refine finD hC ?_);clear hC C))|((with_reducible first|refine qqT fun C hC=>?_|refine qqU fun C hC=>?_|intro C hC);simp only [go_sem, hlt, hat, cells_eqn, pcells_eqn, v1, hz];((with_reducible first|refine finA hC ?_|refine finD hC ?_);clear hC C))|(with_reducible first|refine qqA fun K hK=>?_|refine qqB fun K hK=>?_|refine qqC fun K hK=>?_|(refine qqD ?_;refine hK _ _ ?_;try clear hK K)|(refine qqE ?_;refine hK _ _ _ ?_ ?_;(focus kernel_rfl);try clear hK K)|(refine qqF ?_;refine hK _ _ ?_;try clear hK K)|refine qqG ?_|refine qqH ?_|refine qqI ?_|refine qqJ ?_|refine qqK ?_|(refine qqL ?_;try clear hK K)|(refine qqM ?_;try clear hK K)|refine qqN ?_|refine qqO ?_|(refine qqP ?_ ?_;focus decide))|((with_reducible first|apply qqQ|apply qqR|apply qqS);focus (simp only [go_sem, hlt, hat, cells_eqn, pcells_eqn, v1, hz];exact rfl))|(with_reducible first|refine gk_tt ?_|refine gk_ff ?_|refine ck_t ?_|refine ck_f ?_)|((with_reducible first|refine gk_tf ?_|refine gk_ft ?_|refine gk_u ?_|refine gk_u' ?_);first|(intro _ e;(first|rw [qqY] at e|rw [qqZ] at e);subst e)|(intro _ _ e e';(first|rw [qqY] at e|rw [qqZ] at e);subst e;subst e'))))
      (refine retP_ret (List.range 40) rfl ?_; exact vwA)
    | false =>
      cases v2 : (valT e.r != 0) with
      | true =>
        obtain ⟨hb0, hok⟩ := hbad (hany (by unfold badQ; rw [v1, v2]; rfl))
        subst hb0 hok
        have e0 : encB [] = [] := rfl
        rw [e0]
        (repeat' (first|((first|(with_reducible refine qqV fun C hC=>?_)|(with_reducible refine qqW fun C hC=>?_)|((with_reducible intro C hC);(with_reducible refine qqX ?_)));(first|(simp only [go_sem, hlt, hat, cells_eqn, pcells_eqn, v1, v2, hz];(first|((with_reducible apply ACall.pure0 [] (h1));(focus (exact vwA)))|((with_reducible apply ACall.pure0 [] (h2));(focus (exact vwA))))));(simp only [go_sem, hlt, hat, cells_eqn, pcells_eqn, v1, v2, hz]);((with_reducible first|refine finA hC ?_|refine finD hC ?_);clear hC C))|((with_reducible first|refine qqT fun C hC=>?_|refine qqU fun C hC=>?_|intro C hC);simp only [go_sem, hlt, hat, cells_eqn, pcells_eqn, v1, v2, hz];((with_reducible first|refine finA hC ?_|refine finD hC ?_);clear hC C))|(with_reducible first|refine qqA fun K hK=>?_|refine qqB fun K hK=>?_|refine qqC fun K hK=>?_|(refine qqD ?_;refine hK _ _ ?_;try clear hK K)|(refine qqE ?_;refine hK _ _ _ ?_ ?_;(focus kernel_rfl);try clear hK K)|(refine qqF ?_;refine hK _ _ ?_;try clear hK K)|refine qqG ?_|refine qqH ?_|refine qqI ?_|refine qqJ ?_|refine qqK ?_|(refine qqL ?_;try clear hK K)|(refine qqM ?_;try clear hK K)|refine qqN ?_|refine qqO ?_|(refine qqP ?_ ?_;focus decide))|((with_reducible first|apply qqQ|apply qqR|apply qqS);focus (simp only [go_sem, hlt, hat, cells_eqn, pcells_eqn, v1, v2, hz];exact rfl))|(with_reducible first|refine gk_tt ?_|refine gk_ff ?_|refine ck_t ?_|refine ck_f ?_)|((with_reducible first|refine gk_tf ?_|refine gk_ft ?_|refine gk_u ?_|refine gk_u' ?_);first|(intro _ e;(first|rw [qqY] at e|rw [qqZ] at e);subst e)|(intro _ _ e e';(first|rw [qqY] at e|rw [qqZ] at e);subst e;subst e'))))
        (refine retP_ret (List.range 40) rfl ?_; exact vwA)
      | false =>
        (repeat' (first|((first|(with_reducible refine qqV fun C hC=>?_)|(with_reducible refine qqW fun C hC=>?_)|((with_reducible intro C hC);(with_reducible refine qqX ?_)));(first|(simp only [go_sem, hlt, hat, cells_eqn, pcells_eqn, v1, v2];(first|((with_reducible apply ACall.pure0 [] (h1));(focus (exact vwA)))|((with_reducible apply ACall.pure0 [] (h2));(focus (exact vwA))))));(simp only [go_sem, hlt, hat, cells_eqn, pcells_eqn, v1, v2]);((with_reducible first|refine finA hC ?_|refine finD hC ?_);clear hC C))|((with_reducible first|refine qqT fun C hC=>?_|refine qqU fun C hC=>?_|intro C hC);simp only [go_sem, hlt, hat, cells_eqn, pcells_eqn, v1, v2];((with_reducible first|refine finA hC ?_|refine finD hC ?_);clear hC C))|(with_reducible first|refine qqA fun K hK=>?_|refine qqB fun K hK=>?_|refine qqC fun K hK=>?_|(refine qqD ?_;refine hK _ _ ?_;try clear hK K)|(refine qqE ?_;refine hK _ _ _ ?_ ?_;(focus kernel_rfl);try clear hK K)|(refine qqF ?_;refine hK _ _ ?_;try clear hK K)|refine qqG ?_|refine qqH ?_|refine qqI ?_|refine qqJ ?_|refine qqK ?_|(refine qqL ?_;try clear hK K)|(refine qqM ?_;try clear hK K)|refine qqN ?_|refine qqO ?_|(refine qqP ?_ ?_;focus decide))|((with_reducible first|apply qqQ|apply qqR|apply qqS);focus (simp only [go_sem, hlt, hat, cells_eqn, pcells_eqn, v1, v2];exact rfl))|(with_reducible first|refine gk_tt ?_|refine gk_ff ?_|refine ck_t ?_|refine ck_f ?_)|((with_reducible first|refine gk_tf ?_|refine gk_ft ?_|refine gk_u ?_|refine gk_u' ?_);first|(intro _ e;(first|rw [qqY] at e|rw [qqZ] at e);subst e)|(intro _ _ e e';(first|rw [qqY] at e|rw [qqZ] at e);subst e;subst e'))))
        refine qqF ?_
        refine hK1 _ _ _ _ _ (LeB [] (by refine ⟨?_, ?_, ?_⟩ <;> simp only [leFr, leFb, leHp, V.ren, V.renL, V.bd, V.bdL, allL, lt, Go.Ab.get, hget, List.map_cons, List.map_nil, List.length_cons, List.length_nil, List.length_append, List.getElem?_cons_zero, List.getElem?_cons_succ, List.getElem?_nil, Option.join_some, Option.join_none, List.getD_cons_zero, List.getD_cons_succ, List.getD_nil, Nat.reduceAdd, Nat.reduceLT, Nat.reduceEqDiff, Nat.zero_add, reduceIte, if_true, if_false, and_true, true_and, renL_vcells, allL_vcells, renL_pv, leBlk_some, eq_self, true_or, or_true, reduceCtorEq, false_or, hw, List.length_append])) (ih (pre ++ [e]) (by simp [hpre]) (by rw [List.any_append, hp]; simp [badQ, v1, v2]))
set_option maxHeartbeats 4000000 in
theorem f3_ok (es : List Eqn) (hes : es.length ≤ 1099511627776) (hn : ∀ e ∈ es, nds e.l ≤ 900000000000000 ∧ nds e.r ≤ 900000000000000) : PCall Try.prog 3 [.list 6 (encQ es)] (bb true) := by
  have h8 := works8
  obtain ⟨m, hmin, hm10, hml⟩ : ∃ m : Nat, (if (10 : Int) < (es.length : Int) then (10 : Int) else (es.length : Int)) = (m : Int) ∧ m ≤ 10 ∧ m ≤ es.length :=
    ⟨min 10 es.length, by split <;> omega, by omega, by omega⟩
  generalize hqs : es.take m = qs
  obtain ⟨bs, ok, hu, ha⟩ := unify_ans qs
  have hql : qs.length ≤ 10 := by rw [← hqs, List.length_take]; omega
  have hnq : ∀ e ∈ qs, nds e.l ≤ 900000000000000 ∧ nds e.r ≤ 900000000000000 := fun e he => hn e (by rw [← hqs] at he; exact List.mem_of_mem_take he)
  unfold ansV at hu
  refine PCall.intro (ps := [bb true]) fn3 (by simp) ?_
  unfold ac3
  simp only [argFr]
  (repeat' (first|((first|(with_reducible refine qqV fun C hC=>?_)|(with_reducible refine qqW fun C hC=>?_)|((with_reducible intro C hC);(with_reducible refine qqX ?_)));(first|(simp only [go_sem, encQ_len, encQ_take, hqs, hmin, hml, Nat.zero_le];(first|((with_reducible apply ACall.pure0 [] (h8));(focus (exact vwA)))|((with_reducible apply ACall.pure0 [] (hu));(focus (exact vwA))))));(simp only [go_sem, encQ_len, encQ_take, hqs, hmin, hml, Nat.zero_le]);((with_reducible first|refine finA hC ?_|refine finD hC ?_);clear hC C))|((with_reducible first|refine qqT fun C hC=>?_|refine qqU fun C hC=>?_|intro C hC);simp only [go_sem, encQ_len, encQ_take, hqs, hmin, hml, Nat.zero_le];((with_reducible first|refine finA hC ?_|refine finD hC ?_);clear hC C))|(with_reducible first|refine qqA fun K hK=>?_|refine qqB fun K hK=>?_|refine qqC fun K hK=>?_|(refine qqD ?_;refine hK _ _ ?_;try clear hK K)|(refine qqE ?_;refine hK _ _ _ ?_ ?_;(focus kernel_rfl);try clear hK K)|(refine qqF ?_;refine hK _ _ ?_;try clear hK K)|refine qqG ?_|refine qqH ?_|refine qqI ?_|refine qqJ ?_|refine qqK ?_|(refine qqL ?_;try clear hK K)|(refine qqM ?_;try clear hK K)|refine qqN ?_|refine qqO ?_|(refine qqP ?_ ?_;focus decide))|((with_reducible first|apply qqQ|apply qqR|apply qqS);focus (simp only [go_sem, encQ_len, encQ_take, hqs, hmin, hml, Nat.zero_le];exact rfl))|(with_reducible first|refine gk_tt ?_|refine gk_ff ?_|refine ck_t ?_|refine ck_f ?_)|((with_reducible first|refine gk_tf ?_|refine gk_ft ?_|refine gk_u ?_|refine gk_u' ?_);first|(intro _ e;(first|rw [qqY] at e|rw [qqZ] at e);subst e)|(intro _ _ e e';(first|rw [qqY] at e|rw [qqZ] at e);subst e;subst e'))))
  have hbad : qs.any badQ = true → bs = [] ∧ ok = false := fun h => by
    cases ha with
    | bad _ => exact ⟨rfl, rfl⟩
    | fail _ h2 _ => rw [h] at h2; cases h2
    | big _ h2 _ _ _ => rw [h] at h2; cases h2
    | ok _ h2 _ _ _ => rw [h] at h2; cases h2
  refine awp_loop_k _ (LeB [] (by refine ⟨?_, ?_, ?_⟩ <;> simp only [leFr, leFb, leHp, V.ren, V.renL, V.bd, V.bdL, allL, lt, Go.Ab.get, hget, List.map_cons, List.map_nil, List.length_cons, List.length_nil, List.length_append, List.getElem?_cons_zero, List.getElem?_cons_succ, List.getElem?_nil, Option.join_some, Option.join_none, List.getD_cons_zero, List.getD_cons_succ, List.getD_nil, Nat.reduceAdd, Nat.reduceLT, Nat.reduceEqDiff, Nat.zero_add, reduceIte, if_true, if_false, and_true, true_and, renL_vcells, allL_vcells, renL_pv, leBlk_some, eq_self, true_or, or_true, reduceCtorEq, false_or, c0])) (f3_rows (by omega) hnq hbad (fun fr hg g0 g3 g4 => hK _ _ ?_) qs [] rfl rfl)
  obtain ⟨n, o, hm, ho1, ho2⟩ := ref_ans ha hql hg
  have hc := mgu_ok (by omega) hm
  unfold ansV at hc
  cases o with
  | none =>
    have e0 := ho2 rfl
    subst e0
    have hb0 := ans_false ha
    subst hb0
    have e0 : encB [] = [] := rfl
    have hz : (((0 : Nat) : Int) == 0) = true := rfl
    simp only [mR, mB, e0] at hc
    rw [e0] at g3
    (repeat' (first|((first|(with_reducible refine qqV fun C hC=>?_)|(with_reducible refine qqW fun C hC=>?_)|((with_reducible intro C hC);(with_reducible refine qqX ?_)));(first|(simp only [go_sem, g0, g3, g4, hz];(first|((with_reducible apply ACall.pure0 [] (hc));(focus (exact vwA))))));(simp only [go_sem, g0, g3, g4, hz]);((with_reducible first|refine finA hC ?_|refine finD hC ?_);clear hC C))|((with_reducible first|refine qqT fun C hC=>?_|refine qqU fun C hC=>?_|intro C hC);simp only [go_sem, g0, g3, g4, hz];((with_reducible first|refine finA hC ?_|refine finD hC ?_);clear hC C))|(with_reducible first|refine qqA fun K hK=>?_|refine qqB fun K hK=>?_|refine qqC fun K hK=>?_|(refine qqD ?_;refine hK _ _ ?_;try clear hK K)|(refine qqE ?_;refine hK _ _ _ ?_ ?_;(focus kernel_rfl);try clear hK K)|(refine qqF ?_;refine hK _ _ ?_;try clear hK K)|refine qqG ?_|refine qqH ?_|refine qqI ?_|refine qqJ ?_|refine qqK ?_|(refine qqL ?_;try clear hK K)|(refine qqM ?_;try clear hK K)|refine qqN ?_|refine qqO ?_|(refine qqP ?_ ?_;focus decide))|((with_reducible first|apply qqQ|apply qqR|apply qqS);focus (simp only [go_sem, g0, g3, g4, hz];exact rfl))|(with_reducible first|refine gk_tt ?_|refine gk_ff ?_|refine ck_t ?_|refine ck_f ?_)|((with_reducible first|refine gk_tf ?_|refine gk_ft ?_|refine gk_u ?_|refine gk_u' ?_);first|(intro _ e;(first|rw [qqY] at e|rw [qqZ] at e);subst e)|(intro _ _ e e';(first|rw [qqY] at e|rw [qqZ] at e);subst e;subst e'))))
    (refine retP_ret (List.range 40) rfl ?_; exact vwA)
  | some s =>
    obtain ⟨e1, e2⟩ := ho1 s rfl
    cases ok with
    | false =>
      have hb0 := ans_false ha
      subst hb0
      have e0 : encB [] = [] := rfl
      have hz : (((0 : Nat) : Int) == 0) = true := rfl
      simp only [mR, mB, ← e1, Bool.false_eq_true, if_false, e0] at hc
      rw [e0] at g3
      (repeat' (first|((first|(with_reducible refine qqV fun C hC=>?_)|(with_reducible refine qqW fun C hC=>?_)|((with_reducible intro C hC);(with_reducible refine qqX ?_)));(first|(simp only [go_sem, g0, g3, g4, hz];(first|((with_reducible apply ACall.pure0 [] (hc));(focus (exact vwA))))));(simp only [go_sem, g0, g3, g4, hz]);((with_reducible first|refine finA hC ?_|refine finD hC ?_);clear hC C))|((with_reducible first|refine qqT fun C hC=>?_|refine qqU fun C hC=>?_|intro C hC);simp only [go_sem, g0, g3, g4, hz];((with_reducible first|refine finA hC ?_|refine finD hC ?_);clear hC C))|(with_reducible first|refine qqA fun K hK=>?_|refine qqB fun K hK=>?_|refine qqC fun K hK=>?_|(refine qqD ?_;refine hK _ _ ?_;try clear hK K)|(refine qqE ?_;refine hK _ _ _ ?_ ?_;(focus kernel_rfl);try clear hK K)|(refine qqF ?_;refine hK _ _ ?_;try clear hK K)|refine qqG ?_|refine qqH ?_|refine qqI ?_|refine qqJ ?_|refine qqK ?_|(refine qqL ?_;try clear hK K)|(refine qqM ?_;try clear hK K)|refine qqN ?_|refine qqO ?_|(refine qqP ?_ ?_;focus decide))|((with_reducible first|apply qqQ|apply qqR|apply qqS);focus (simp only [go_sem, g0, g3, g4, hz];exact rfl))|(with_reducible first|refine gk_tt ?_|refine gk_ff ?_|refine ck_t ?_|refine ck_f ?_)|((with_reducible first|refine gk_tf ?_|refine gk_ft ?_|refine gk_u ?_|refine gk_u' ?_);first|(intro _ e;(first|rw [qqY] at e|rw [qqZ] at e);subst e)|(intro _ _ e e';(first|rw [qqY] at e|rw [qqZ] at e);subst e;subst e'))))
      (refine retP_ret (List.range 40) rfl ?_; exact vwA)
    | true =>
      have e2 := e2 rfl
      subst e2
      simp only [mR, mB, ← e1, if_true] at hc
      have hq := eqb_ok bs bs
      rw [eqB_self] at hq
      (repeat' (first|((first|(with_reducible refine qqV fun C hC=>?_)|(with_reducible refine qqW fun C hC=>?_)|((with_reducible intro C hC);(with_reducible refine qqX ?_)));(first|(simp only [go_sem, g0, g3, g4];(first|((with_reducible apply ACall.pure0 [] (hc));(focus (exact vwA)))|((with_reducible apply ACall.pure0 [] (hq));(focus (exact vwA))))));(simp only [go_sem, g0, g3, g4]);((with_reducible first|refine finA hC ?_|refine finD hC ?_);clear hC C))|((with_reducible first|refine qqT fun C hC=>?_|refine qqU fun C hC=>?_|intro C hC);simp only [go_sem, g0, g3, g4];((with_reducible first|refine finA hC ?_|refine finD hC ?_);clear hC C))|(with_reducible first|refine qqA fun K hK=>?_|refine qqB fun K hK=>?_|refine qqC fun K hK=>?_|(refine qqD ?_;refine hK _ _ ?_;try clear hK K)|(refine qqE ?_;refine hK _ _ _ ?_ ?_;(focus kernel_rfl);try clear hK K)|(refine qqF ?_;refine hK _ _ ?_;try clear hK K)|refine qqG ?_|refine qqH ?_|refine qqI ?_|refine qqJ ?_|refine qqK ?_|(refine qqL ?_;try clear hK K)|(refine qqM ?_;try clear hK K)|refine qqN ?_|refine qqO ?_|(refine qqP ?_ ?_;focus decide))|((with_reducible first|apply qqQ|apply qqR|apply qqS);focus (simp only [go_sem, g0, g3, g4];exact rfl))|(with_reducible first|refine gk_tt ?_|refine gk_ff ?_|refine ck_t ?_|refine ck_f ?_)|((with_reducible first|refine gk_tf ?_|refine gk_ft ?_|refine gk_u ?_|refine gk_u' ?_);first|(intro _ e;(first|rw [qqY] at e|rw [qqZ] at e);subst e)|(intro _ _ e e';(first|rw [qqY] at e|rw [qqZ] at e);subst e;subst e'))))
      (refine retP_ret (List.range 40) rfl ?_; exact vwA)
end Go.Proofs.Ytiediojibljpiaa
