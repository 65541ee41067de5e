/- R6: joined from ZR6. -/
import Derived.Test.YtiediojibljpiaaVFnU
import Derived.Test.YtiediojibljpiaaVR5
import Derived.Test.YtiediojibljpiaaVW2
/- The reference: the loops over bindings and arguments. -/
set_option maxRecDepth 10000
set_option linter.unusedSimpArgs false
set_option linter.unusedVariables false
namespace Go.Proofs.Ytiediojibljpiaa
open Go Go.Ab
set_option maxHeartbeats 4000000 in
theorem works8 : PCall Try.prog 8 [] (bb true) := by
  have h1 := u1_ok
  have h2 := u2_ok
  have hb := eqb_ok bs1 bs1
  rw [eqB_self] at hb
  simp only [es1, es2, bs1, encQ, Eqn.enc, Ty.kd, Ty.id, Ty.args, encL, Ty.enc, List.map_cons, List.map_nil, ansV, encB, Bd.enc] at h1 h2 hb
  have c1 := typ2_ok 9 0 [tV 1, tV 2]
  have c2 := typ2_ok 9 0 [tI, tV 1]
  have c3 := typ2_ok 8 0 [tV 0]
  simp only [encL, Ty.enc] at c1 c2 c3
  refine PCall.intro (ps := [bb true]) fn8 (by simp) ?_
  unfold ac8
  simp only [argFr]
  (repeat' (first|((first|(with_reducible refine qqV fun C hC=>?_)|(with_reducible refine qqW fun C hC=>?_)|((with_reducible intro C hC);(with_reducible refine qqX ?_)));(first|(simp only [go_sem, cells_enc, enc_eq, Ty.kd, Ty.id, Ty.args, encL, Ty.tc];(first|((with_reducible apply ACall.pure0 [] (tvar2_ok 1));(focus (exact vwA)))|((with_reducible apply ACall.pure0 [] (tvar2_ok 2));(focus (exact vwA)))|((with_reducible apply ACall.pure0 [] (tvar2_ok 0));(focus (exact vwA)))|((with_reducible apply ACall.pure0 [] (tint2_ok));(focus (exact vwA)))|((with_reducible apply ACall.pure0 [0] (c1));(focus (exact vwA)))|((with_reducible apply ACall.pure0 [1] (c2));(focus (exact vwA)))|((with_reducible apply ACall.pure0 [3] (c3));(focus (exact vwA)))|((with_reducible apply ACall.pure0 [2] (h1));(focus (exact vwA)))|((with_reducible apply ACall.pure0 [4] (h2));(focus (exact vwA)))|((with_reducible apply ACall.pure0 [5] (hb));(focus (exact vwA))))));(simp only [go_sem, cells_enc, enc_eq, Ty.kd, Ty.id, Ty.args, encL, Ty.tc]);((with_reducible first|refine finA hC ?_|refine finD hC ?_);clear hC C))|((with_reducible first|refine qqT fun C hC=>?_|refine qqU fun C hC=>?_|intro C hC);simp only [go_sem, cells_enc, enc_eq, Ty.kd, Ty.id, Ty.args, encL, Ty.tc];((with_reducible first|refine finA hC ?_|refine finD hC ?_);clear hC C))|(with_reducible first|refine qqA fun K hK=>?_|refine qqB fun K hK=>?_|refine qqC fun K hK=>?_|(refine qqD ?_;refine hK _ _ ?_;try clear hK K)|(refine qqE ?_;refine hK _ _ _ ?_ ?_;(focus kernel_rfl);try clear hK K)|(refine qqF ?_;refine hK _ _ ?_;try clear hK K)|refine qqG ?_|refine qqH ?_|refine qqI ?_|refine qqJ ?_|refine qqK ?_|(refine qqL ?_;try clear hK K)|(refine qqM ?_;try clear hK K)|refine qqN ?_|refine qqO ?_|(refine qqP ?_ ?_;focus decide))|((with_reducible first|apply qqQ|apply qqR|apply qqS);focus (simp only [go_sem, cells_enc, enc_eq, Ty.kd, Ty.id, Ty.args, encL, Ty.tc];exact rfl))|(with_reducible first|refine gk_tt ?_|refine gk_ff ?_|refine ck_t ?_|refine ck_f ?_)|((with_reducible first|refine gk_tf ?_|refine gk_ft ?_|refine gk_u ?_|refine gk_u' ?_);first|(intro _ e;(first|rw [qqY] at e|rw [qqZ] at e);subst e)|(intro _ _ e e';(first|rw [qqY] at e|rw [qqZ] at e);subst e;subst e'))))
  (refine retP_ret (List.range 40) rfl ?_; exact vwA)
theorem not_big {n : Nat} {s : List Bd} (h : bigB n s = false) : ∀ b ∈ s, nds b.t ≤ n := fun b hb => by
  unfold bigB at h
  rw [List.any_eq_false] at h
  simpa using h b hb
set_option maxHeartbeats 4000000 in
/-- no binding is too large -/
theorem r_big {s : List Bd} {w : PV} (hs : s.length ≤ 2000000) (hn : bigB 100000000000000 s = false) {Q : Post} (hQ : bigB 20000 s = true → ∀ fr H, Ab.get fr 2 = .pv (.lit (.slice none 0 0)) → Ab.get fr 3 = .pv (bb false) → Q .ret fr H)
    (hN : ∀ fr, bigB 20000 s = false → Ab.get fr 5 = .pv w → Ab.get fr 4 = .pv (.list 4 (encB s)) → Q .normal fr []) :
    ∀ (rest pre : List Bd), pre ++ rest = s → bigB 20000 pre = false → loopN (awp Try.prog ac11_l0) (catch_ 5 Q) (rest.length + 1)
      [(123, .pv (ii pre.length)), (122, .pv (ii s.length)), (121, .pv (.list 4 (encB s))), (5, .pv w), (4, .pv (.list 4 (encB s)))] [] := by
  intro rest
  induction rest with
  | nil =>
    intro pre hpre hp
    have hpre : pre = s := by simpa using hpre
    subst hpre
    refine loopN_k fun K1 hK1 => ?_
    unfold ac11_l0
    (repeat' (first|((with_reducible first|refine qqT fun C hC=>?_|refine qqU fun C hC=>?_|intro C hC);simp only [go_sem, lt_end];((with_reducible first|refine finA hC ?_|refine finD hC ?_);clear hC C))|(with_reducible first|refine qqA fun K hK=>?_|refine qqB fun K hK=>?_|refine qqC fun K hK=>?_|(refine qqD ?_;refine hK _ _ ?_;try clear hK K)|(refine qqE ?_;refine hK _ _ _ ?_ ?_;(focus kernel_rfl);try clear hK K)|(refine qqF ?_;refine hK _ _ ?_;try clear hK K)|refine qqG ?_|refine qqH ?_|refine qqI ?_|refine qqJ ?_|refine qqK ?_|(refine qqL ?_;try clear hK K)|(refine qqM ?_;try clear hK K)|refine qqN ?_|refine qqO ?_|(refine qqP ?_ ?_;focus decide))|((with_reducible first|apply qqQ|apply qqR|apply qqS);focus (simp only [go_sem, lt_end];exact rfl))|(with_reducible first|refine gk_tt ?_|refine gk_ff ?_|refine ck_t ?_|refine ck_f ?_)|((with_reducible first|refine gk_tf ?_|refine gk_ft ?_|refine gk_u ?_|refine gk_u' ?_);first|(intro _ e;(first|rw [qqY] at e|rw [qqZ] at e);subst e)|(intro _ _ e e';(first|rw [qqY] at e|rw [qqZ] at e);subst e;subst e'))))
    exact hN _ hp rfl rfl
  | cons b rest ih =>
    intro pre hpre hp
    have hlt : decide ((pre.length : Int) < (s.length : Int)) = true := by rw [← hpre]; exact lt_app _ _ _
    have hat : (encB s)[pre.length]? = some b.enc := by rw [← hpre]; exact encB_at _ _ _
    have hb : pre.length + 1 ≤ big := by have := congrArg List.length hpre; simp at this; unfold big; omega
    have hnb := not_big hn b (by rw [← hpre]; simp)
    have hc := size_ok b.t (by omega)
    have hw := wrapS (n := pre.length) (by unfold big at hb; omega)
    refine loopN_k fun K1 hK1 => ?_
    unfold ac11_l0
    cases hbig : decide ((nds b.t : Int) > 20000) with
    | true =>
      have hany : bigB 20000 s = true := by
        unfold bigB
        rw [List.any_eq_true]
        exact ⟨b, by rw [← hpre]; simp, by have := of_decide_eq_true hbig; simp only [decide_eq_true_eq]; omega⟩
      (repeat' (first|((first|(with_reducible refine qqV fun C hC=>?_)|(with_reducible refine qqW fun C hC=>?_)|((with_reducible intro C hC);(with_reducible refine qqX ?_)));(first|(simp only [go_sem, hlt, hat, pcells_bd, Bd.enc, hbig];(first|((with_reducible apply ACall.pure0 [] (hc));(focus (exact vwA))))));(simp only [go_sem, hlt, hat, pcells_bd, Bd.enc, hbig]);((with_reducible first|refine finA hC ?_|refine finD hC ?_);clear hC C))|((with_reducible first|refine qqT fun C hC=>?_|refine qqU fun C hC=>?_|intro C hC);simp only [go_sem, hlt, hat, pcells_bd, Bd.enc, hbig];((with_reducible first|refine finA hC ?_|refine finD hC ?_);clear hC C))|(with_reducible first|refine qqA fun K hK=>?_|refine qqB fun K hK=>?_|refine qqC fun K hK=>?_|(refine qqD ?_;refine hK _ _ ?_;try clear hK K)|(refine qqE ?_;refine hK _ _ _ ?_ ?_;(focus kernel_rfl);try clear hK K)|(refine qqF ?_;refine hK _ _ ?_;try clear hK K)|refine qqG ?_|refine qqH ?_|refine qqI ?_|refine qqJ ?_|refine qqK ?_|(refine qqL ?_;try clear hK K)|(refine qqM ?_;try clear hK K)|refine qqN ?_|refine qqO ?_|(refine qqP ?_ ?_;focus decide))|((with_reducible first|apply qqQ|apply qqR|apply qqS);focus (simp only [go_sem, hlt, hat, pcells_bd, Bd.enc, hbig];exact rfl))|(with_reducible first|refine gk_tt ?_|refine gk_ff ?_|refine ck_t ?_|refine ck_f ?_)|((with_reducible first|refine gk_tf ?_|refine gk_ft ?_|refine gk_u ?_|refine gk_u' ?_);first|(intro _ e;(first|rw [qqY] at e|rw [qqZ] at e);subst e)|(intro _ _ e e';(first|rw [qqY] at e|rw [qqZ] at e);subst e;subst e'))))
      exact hQ hany _ _ rfl rfl
    | false =>
      (repeat' (first|((first|(with_reducible refine qqV fun C hC=>?_)|(with_reducible refine qqW fun C hC=>?_)|((with_reducible intro C hC);(with_reducible refine qqX ?_)));(first|(simp only [go_sem, hlt, hat, pcells_bd, Bd.enc, hbig];(first|((with_reducible apply ACall.pure0 [] (hc));(focus (exact vwA))))));(simp only [go_sem, hlt, hat, pcells_bd, Bd.enc, hbig]);((with_reducible first|refine finA hC ?_|refine finD hC ?_);clear hC C))|((with_reducible first|refine qqT fun C hC=>?_|refine qqU fun C hC=>?_|intro C hC);simp only [go_sem, hlt, hat, pcells_bd, Bd.enc, hbig];((with_reducible first|refine finA hC ?_|refine finD hC ?_);clear hC C))|(with_reducible first|refine qqA fun K hK=>?_|refine qqB fun K hK=>?_|refine qqC fun K hK=>?_|(refine qqD ?_;refine hK _ _ ?_;try clear hK K)|(refine qqE ?_;refine hK _ _ _ ?_ ?_;(focus kernel_rfl);try clear hK K)|(refine qqF ?_;refine hK _ _ ?_;try clear hK K)|refine qqG ?_|refine qqH ?_|refine qqI ?_|refine qqJ ?_|refine qqK ?_|(refine qqL ?_;try clear hK K)|(refine qqM ?_;try clear hK K)|refine qqN ?_|refine qqO ?_|(refine qqP ?_ ?_;focus decide))|((with_reducible first|apply qqQ|apply qqR|apply qqS);focus (simp only [go_sem, hlt, hat, pcells_bd, Bd.enc, hbig];exact rfl))|(with_reducible first|refine gk_tt ?_|refine gk_ff ?_|refine ck_t ?_|refine ck_f ?_)|((with_reducible first|refine gk_tf ?_|refine gk_ft ?_|refine gk_u ?_|refine gk_u' ?_);first|(intro _ e;(first|rw [qqY] at e|rw [qqZ] at e);subst e)|(intro _ _ e e';(first|rw [qqY] at e|rw [qqZ] at e);subst e;subst e'))))
      refine qqF ?_
      refine hK1 _ _ _ _ _ (LeB [] (by refine ⟨?_, ?_, ?_⟩ <;> simp only [leFr, leFb, leHp, V.ren, V.renL, V.bd, V.bdL, allL, lt, Go.Ab.get, hget, List.map_cons, List.map_nil, List.length_cons, List.length_nil, List.length_append, List.getElem?_cons_zero, List.getElem?_cons_succ, List.getElem?_nil, Option.join_some, Option.join_none, List.getD_cons_zero, List.getD_cons_succ, List.getD_nil, Nat.reduceAdd, Nat.reduceLT, Nat.reduceEqDiff, Nat.zero_add, reduceIte, if_true, if_false, and_true, true_and, renL_vcells, allL_vcells, renL_pv, leBlk_some, eq_self, true_or, or_true, reduceCtorEq, false_or, hw, List.length_append])) (ih (pre ++ [b]) (by simp [hpre]) (by
        unfold bigB at hp ⊢
        rw [List.any_append, hp]
        have := of_decide_eq_false hbig
        simp; omega))
set_option maxHeartbeats 4000000 in
/-- all bindings within the limits -/
theorem r_lim {s : List Bd} (hs : s.length ≤ 2000000) (hn : bigB 100000000000000 s = false) {K : Fr → Hp → Prop} {Q : Post} (hQ : (s.all fun b => limT b.t) = false → ∀ fr H, Ab.get fr 2 = .pv (.lit (.slice none 0 0)) → Ab.get fr 3 = .pv (bb false) → Q .ret fr H)
    (hN : ∀ fr, (s.all fun b => limT b.t) = true → Ab.get fr 4 = .pv (.list 4 (encB s)) → K fr []) :
    ∀ (rest pre : List Bd), pre ++ rest = s → (pre.all fun b => limT b.t) = true → loopN (awp Try.prog ac11_l3) (catch_ 7 (thn K Q)) (rest.length + 1)
      [(160, .pv (ii pre.length)), (159, .pv (ii s.length)), (158, .pv (.list 4 (encB s))), (4, .pv (.list 4 (encB s)))] [] := by
  intro rest
  induction rest with
  | nil =>
    intro pre hpre hp
    have hpre : pre = s := by simpa using hpre
    subst hpre
    refine loopN_k fun K1 hK1 => ?_
    unfold ac11_l3
    (repeat' (first|((with_reducible first|refine qqT fun C hC=>?_|refine qqU fun C hC=>?_|intro C hC);simp only [go_sem, lt_end];((with_reducible first|refine finA hC ?_|refine finD hC ?_);clear hC C))|(with_reducible first|refine qqA fun K hK=>?_|refine qqB fun K hK=>?_|refine qqC fun K hK=>?_|(refine qqD ?_;refine hK _ _ ?_;try clear hK K)|(refine qqE ?_;refine hK _ _ _ ?_ ?_;(focus kernel_rfl);try clear hK K)|(refine qqF ?_;refine hK _ _ ?_;try clear hK K)|refine qqG ?_|refine qqH ?_|refine qqI ?_|refine qqJ ?_|refine qqK ?_|(refine qqL ?_;try clear hK K)|(refine qqM ?_;try clear hK K)|refine qqN ?_|refine qqO ?_|(refine qqP ?_ ?_;focus decide))|((with_reducible first|apply qqQ|apply qqR|apply qqS);focus (simp only [go_sem, lt_end];exact rfl))|(with_reducible first|refine gk_tt ?_|refine gk_ff ?_|refine ck_t ?_|refine ck_f ?_)|((with_reducible first|refine gk_tf ?_|refine gk_ft ?_|refine gk_u ?_|refine gk_u' ?_);first|(intro _ e;(first|rw [qqY] at e|rw [qqZ] at e);subst e)|(intro _ _ e e';(first|rw [qqY] at e|rw [qqZ] at e);subst e;subst e'))))
    exact hN _ hp rfl
  | cons b rest ih =>
    intro pre hpre hp
    have hlt : decide ((pre.length : Int) < (s.length : Int)) = true := by rw [← hpre]; exact lt_app _ _ _
    have hat : (encB s)[pre.length]? = some b.enc := by rw [← hpre]; exact encB_at _ _ _
    have hb : pre.length + 1 ≤ big := by have := congrArg List.length hpre; simp at this; unfold big; omega
    have hnb := not_big hn b (by rw [← hpre]; simp)
    have hc := size_ok b.t (by omega)
    have hw := wrapS (n := pre.length) (by unfold big at hb; omega)
    have hbad : limT b.t = false → (s.all fun b => limT b.t) = false := fun h => by
      rw [List.all_eq_false]
      exact ⟨b, by rw [← hpre]; simp, by simp [h]⟩
    refine loopN_k fun K1 hK1 => ?_
    unfold ac11_l3
    cases hb1 : decide ((nds b.t : Int) > 100) with
    | true =>
      have hl : limT b.t = false := by
        have := of_decide_eq_true hb1
        unfold limT; rw [if_neg (by simp only [decide_eq_true_eq]; omega)]
      (repeat' (first|((first|(with_reducible refine qqV fun C hC=>?_)|(with_reducible refine qqW fun C hC=>?_)|((with_reducible intro C hC);(with_reducible refine qqX ?_)));(first|(simp only [go_sem, hlt, hat, pcells_bd, Bd.enc, hb1];(first|((with_reducible apply ACall.pure0 [] (hc));(focus (exact vwA))))));(simp only [go_sem, hlt, hat, pcells_bd, Bd.enc, hb1]);((with_reducible first|refine finA hC ?_|refine finD hC ?_);clear hC C))|((with_reducible first|refine qqT fun C hC=>?_|refine qqU fun C hC=>?_|intro C hC);simp only [go_sem, hlt, hat, pcells_bd, Bd.enc, hb1];((with_reducible first|refine finA hC ?_|refine finD hC ?_);clear hC C))|(with_reducible first|refine qqA fun K hK=>?_|refine qqB fun K hK=>?_|refine qqC fun K hK=>?_|(refine qqD ?_;refine hK _ _ ?_;try clear hK K)|(refine qqE ?_;refine hK _ _ _ ?_ ?_;(focus kernel_rfl);try clear hK K)|(refine qqF ?_;refine hK _ _ ?_;try clear hK K)|refine qqG ?_|refine qqH ?_|refine qqI ?_|refine qqJ ?_|refine qqK ?_|(refine qqL ?_;try clear hK K)|(refine qqM ?_;try clear hK K)|refine qqN ?_|refine qqO ?_|(refine qqP ?_ ?_;focus decide))|((with_reducible first|apply qqQ|apply qqR|apply qqS);focus (simp only [go_sem, hlt, hat, pcells_bd, Bd.enc, hb1];exact rfl))|(with_reducible first|refine gk_tt ?_|refine gk_ff ?_|refine ck_t ?_|refine ck_f ?_)|((with_reducible first|refine gk_tf ?_|refine gk_ft ?_|refine gk_u ?_|refine gk_u' ?_);first|(intro _ e;(first|rw [qqY] at e|rw [qqZ] at e);subst e)|(intro _ _ e e';(first|rw [qqY] at e|rw [qqZ] at e);subst e;subst e'))))
      exact hQ (hbad hl) _ _ rfl rfl
    | false =>
      have h1 := of_decide_eq_false hb1
      cases hb2 : decide (dp b.t > 12) with
      | true =>
        have hl : limT b.t = false := by
          have := of_decide_eq_true hb2
          unfold limT; rw [if_pos (by simp only [decide_eq_true_eq]; omega)]; exact decide_eq_false (by omega)
        (repeat' (first|((first|(with_reducible refine qqV fun C hC=>?_)|(with_reducible refine qqW fun C hC=>?_)|((with_reducible intro C hC);(with_reducible refine qqX ?_)));(first|(simp only [go_sem, hlt, hat, pcells_bd, Bd.enc, hb1, hb2];(first|((with_reducible apply ACall.pure0 [] (hc));(focus (exact vwA))))));(simp only [go_sem, hlt, hat, pcells_bd, Bd.enc, hb1, hb2]);((with_reducible first|refine finA hC ?_|refine finD hC ?_);clear hC C))|((with_reducible first|refine qqT fun C hC=>?_|refine qqU fun C hC=>?_|intro C hC);simp only [go_sem, hlt, hat, pcells_bd, Bd.enc, hb1, hb2];((with_reducible first|refine finA hC ?_|refine finD hC ?_);clear hC C))|(with_reducible first|refine qqA fun K hK=>?_|refine qqB fun K hK=>?_|refine qqC fun K hK=>?_|(refine qqD ?_;refine hK _ _ ?_;try clear hK K)|(refine qqE ?_;refine hK _ _ _ ?_ ?_;(focus kernel_rfl);try clear hK K)|(refine qqF ?_;refine hK _ _ ?_;try clear hK K)|refine qqG ?_|refine qqH ?_|refine qqI ?_|refine qqJ ?_|refine qqK ?_|(refine qqL ?_;try clear hK K)|(refine qqM ?_;try clear hK K)|refine qqN ?_|refine qqO ?_|(refine qqP ?_ ?_;focus decide))|((with_reducible first|apply qqQ|apply qqR|apply qqS);focus (simp only [go_sem, hlt, hat, pcells_bd, Bd.enc, hb1, hb2];exact rfl))|(with_reducible first|refine gk_tt ?_|refine gk_ff ?_|refine ck_t ?_|refine ck_f ?_)|((with_reducible first|refine gk_tf ?_|refine gk_ft ?_|refine gk_u ?_|refine gk_u' ?_);first|(intro _ e;(first|rw [qqY] at e|rw [qqZ] at e);subst e)|(intro _ _ e e';(first|rw [qqY] at e|rw [qqZ] at e);subst e;subst e'))))
        exact hQ (hbad hl) _ _ rfl rfl
      | false =>
        have h2 := of_decide_eq_false hb2
        have hl : limT b.t = true := lim_of (by omega) (by omega)
        (repeat' (first|((first|(with_reducible refine qqV fun C hC=>?_)|(with_reducible refine qqW fun C hC=>?_)|((with_reducible intro C hC);(with_reducible refine qqX ?_)));(first|(simp only [go_sem, hlt, hat, pcells_bd, Bd.enc, hb1, hb2];(first|((with_reducible apply ACall.pure0 [] (hc));(focus (exact vwA))))));(simp only [go_sem, hlt, hat, pcells_bd, Bd.enc, hb1, hb2]);((with_reducible first|refine finA hC ?_|refine finD hC ?_);clear hC C))|((with_reducible first|refine qqT fun C hC=>?_|refine qqU fun C hC=>?_|intro C hC);simp only [go_sem, hlt, hat, pcells_bd, Bd.enc, hb1, hb2];((with_reducible first|refine finA hC ?_|refine finD hC ?_);clear hC C))|(with_reducible first|refine qqA fun K hK=>?_|refine qqB fun K hK=>?_|refine qqC fun K hK=>?_|(refine qqD ?_;refine hK _ _ ?_;try clear hK K)|(refine qqE ?_;refine hK _ _ _ ?_ ?_;(focus kernel_rfl);try clear hK K)|(refine qqF ?_;refine hK _ _ ?_;try clear hK K)|refine qqG ?_|refine qqH ?_|refine qqI ?_|refine qqJ ?_|refine qqK ?_|(refine qqL ?_;try clear hK K)|(refine qqM ?_;try clear hK K)|refine qqN ?_|refine qqO ?_|(refine qqP ?_ ?_;focus decide))|((with_reducible first|apply qqQ|apply qqR|apply qqS);focus (simp only [go_sem, hlt, hat, pcells_bd, Bd.enc, hb1, hb2];exact rfl))|(with_reducible first|refine gk_tt ?_|refine gk_ff ?_|refine ck_t ?_|refine ck_f ?_)|((with_reducible first|refine gk_tf ?_|refine gk_ft ?_|refine gk_u ?_|refine gk_u' ?_);first|(intro _ e;(first|rw [qqY] at e|rw [qqZ] at e);subst e)|(intro _ _ e e';(first|rw [qqY] at e|rw [qqZ] at e);subst e;subst e'))))
        refine qqF ?_
        refine hK1 _ _ _ _ _ (LeB [] (by refine ⟨?_, ?_, ?_⟩ <;> simp only [leFr, leFb, leHp, V.ren, V.renL, V.bd, V.bdL, allL, lt, Go.Ab.get, hget, List.map_cons, List.map_nil, List.length_cons, List.length_nil, List.length_append, List.getElem?_cons_zero, List.getElem?_cons_succ, List.getElem?_nil, Option.join_some, Option.join_none, List.getD_cons_zero, List.getD_cons_succ, List.getD_nil, Nat.reduceAdd, Nat.reduceLT, Nat.reduceEqDiff, Nat.zero_add, reduceIte, if_true, if_false, and_true, true_and, renL_vcells, allL_vcells, renL_pv, leBlk_some, eq_self, true_or, or_true, reduceCtorEq, false_or, hw, List.length_append])) (ih (pre ++ [b]) (by simp [hpre]) (by rw [List.all_append, hp]; simp [hl]))
end Go.Proofs.Ytiediojibljpiaa
