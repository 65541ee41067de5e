/- A4: joined from X3 X4 X5 X6 X7. -/
import Derived.Test.YtiediojibljpiaaVFnU
import Derived.Test.YtiediojibljpiaaVA3
/- The reference's well-formedness of types is the program's. -/
set_option maxRecDepth 10000
set_option linter.unusedSimpArgs false
set_option linter.unusedVariables false
namespace Go.Proofs.Ytiediojibljpiaa
open Go Go.Ab
theorem kind_cases (k : Int) : k = 0 ∨ k = 3 ∨ k = 4 ∨ k = 5 ∨ k = 6 ∨ k = 1 ∨ k = 2 ∨ k = 7 ∨ k = 8 ∨ k = 9 ∨ k = 10 ∨
    ((k == 0) = false ∧ (k == 3) = false ∧ (k == 4) = false ∧ (k == 5) = false ∧ (k == 6) = false ∧ (k == 1) = false ∧ (k == 2) = false ∧ (k == 7) = false ∧ (k == 8) = false ∧ (k == 9) = false ∧ (k == 10) = false) := by
  simp only [beq_eq_false_iff_ne, ne_eq]; omega
set_option maxHeartbeats 2000000 in
theorem wf2_loop {ss : List Ty} (hss : ss.length ≤ 1099511627776) (hrec : ∀ t ∈ ss, PCall Try.prog 40 [t.enc] (bb (wfT t))) {K : Fr → Hp → Prop}
    (hK : ∀ fr H, awp Try.prog (AC.seq (.reg [⟨some 2, .mov (.const (.bool true)), none⟩]) .ret) (retP [RV.tmp 2] [bb (wfTL ss)]) fr H → K fr H) :
    ∀ (rest pre : List Ty), pre ++ rest = ss → wfTL ss = wfTL rest → loopN (awp Try.prog ac40_l0) (catch_ 1 (thn K (retP [RV.tmp 2] [bb (wfTL ss)]))) (rest.length + 1)
      [(58, .pv (ii pre.length)), (57, .pv (ii ss.length)), (56, .pv (.list 3 (encL ss)))] [] := by
  intro rest
  induction rest with
  | nil =>
    intro pre hpre he
    have hpre : pre = ss := by simpa using hpre
    subst hpre
    refine loopN_k fun K1 hK1 => ?_
    unfold ac40_l0
    (repeat' (first|((with_reducible first|refine qqT fun C hC=>?_|refine qqU fun C hC=>?_|intro C hC);simp only [go_sem, lt_end];((with_reducible first|refine finA hC ?_|refine finD hC ?_);clear hC C))|(with_reducible first|refine qqA fun K hK=>?_|refine qqB fun K hK=>?_|refine qqC fun K hK=>?_|(refine qqD ?_;refine hK _ _ ?_;try clear hK K)|(refine qqE ?_;refine hK _ _ _ ?_ ?_;(focus kernel_rfl);try clear hK K)|(refine qqF ?_;refine hK _ _ ?_;try clear hK K)|refine qqG ?_|refine qqH ?_|refine qqI ?_|refine qqJ ?_|refine qqK ?_|(refine qqL ?_;try clear hK K)|(refine qqM ?_;try clear hK K)|refine qqN ?_|refine qqO ?_|(refine qqP ?_ ?_;focus decide))|((with_reducible first|apply qqQ|apply qqR|apply qqS);focus (simp only [go_sem, lt_end];exact rfl))|(with_reducible first|refine gk_tt ?_|refine gk_ff ?_|refine ck_t ?_|refine ck_f ?_)|((with_reducible first|refine gk_tf ?_|refine gk_ft ?_|refine gk_u ?_|refine gk_u' ?_);first|(intro _ e;(first|rw [qqY] at e|rw [qqZ] at e);subst e)|(intro _ _ e e';(first|rw [qqY] at e|rw [qqZ] at e);subst e;subst e'))))
    rw [he]
    (refine retP_ret (List.range 40) rfl ?_; (try simp only [wfTL, if_true, if_false, Bool.false_eq_true, Bool.not_true, Bool.not_false]); exact vwA)
  | cons t rest ih =>
    intro pre hpre he
    have hlt : decide ((pre.length : Int) < (ss.length : Int)) = true := by subst hpre; exact lt_app _ _ _
    have hat : (encL ss)[pre.length]? = some t.enc := by subst hpre; exact encL_at _ _ _
    have hb : pre.length + 1 ≤ big := by have := congrArg List.length hpre; simp at this; unfold big; omega
    have hc := hrec t (by subst hpre; simp)
    refine loopN_k fun K1 hK1 => ?_
    unfold ac40_l0
    cases hw : wfT t with
    | false =>
      rw [hw] at hc
      (repeat' (first|((first|(with_reducible refine qqV fun C hC=>?_)|(with_reducible refine qqW fun C hC=>?_)|((with_reducible intro C hC);(with_reducible refine qqX ?_)));(first|(simp only [go_sem, hlt, hat, cells_enc, pcells_enc, Ty.tc];(first|((with_reducible apply ACall.pure0 [] (hc));(focus (exact vwA))))));(simp only [go_sem, hlt, hat, cells_enc, pcells_enc, Ty.tc]);((with_reducible first|refine finA hC ?_|refine finD hC ?_);clear hC C))|((with_reducible first|refine qqT fun C hC=>?_|refine qqU fun C hC=>?_|intro C hC);simp only [go_sem, hlt, hat, cells_enc, pcells_enc, Ty.tc];((with_reducible first|refine finA hC ?_|refine finD hC ?_);clear hC C))|(with_reducible first|refine qqA fun K hK=>?_|refine qqB fun K hK=>?_|refine qqC fun K hK=>?_|(refine qqD ?_;refine hK _ _ ?_;try clear hK K)|(refine qqE ?_;refine hK _ _ _ ?_ ?_;(focus kernel_rfl);try clear hK K)|(refine qqF ?_;refine hK _ _ ?_;try clear hK K)|refine qqG ?_|refine qqH ?_|refine qqI ?_|refine qqJ ?_|refine qqK ?_|(refine qqL ?_;try clear hK K)|(refine qqM ?_;try clear hK K)|refine qqN ?_|refine qqO ?_|(refine qqP ?_ ?_;focus decide))|((with_reducible first|apply qqQ|apply qqR|apply qqS);focus (simp only [go_sem, hlt, hat, cells_enc, pcells_enc, Ty.tc];exact rfl))|(with_reducible first|refine gk_tt ?_|refine gk_ff ?_|refine ck_t ?_|refine ck_f ?_)|((with_reducible first|refine gk_tf ?_|refine gk_ft ?_|refine gk_u ?_|refine gk_u' ?_);first|(intro _ e;(first|rw [qqY] at e|rw [qqZ] at e);subst e)|(intro _ _ e e';(first|rw [qqY] at e|rw [qqZ] at e);subst e;subst e'))))
      simp only [wfTL, hw, Bool.false_eq_true, if_false] at he
      rw [he]
      (refine retP_ret (List.range 40) rfl ?_; exact vwA)
    | true =>
      rw [hw] at hc
      (repeat' (first|((first|(with_reducible refine qqV fun C hC=>?_)|(with_reducible refine qqW fun C hC=>?_)|((with_reducible intro C hC);(with_reducible refine qqX ?_)));(first|(simp only [go_sem, hlt, hat, cells_enc, pcells_enc, Ty.tc];(first|((with_reducible apply ACall.pure0 [] (hc));(focus (exact vwA))))));(simp only [go_sem, hlt, hat, cells_enc, pcells_enc, Ty.tc]);((with_reducible first|refine finA hC ?_|refine finD hC ?_);clear hC C))|((with_reducible first|refine qqT fun C hC=>?_|refine qqU fun C hC=>?_|intro C hC);simp only [go_sem, hlt, hat, cells_enc, pcells_enc, Ty.tc];((with_reducible first|refine finA hC ?_|refine finD hC ?_);clear hC C))|(with_reducible first|refine qqA fun K hK=>?_|refine qqB fun K hK=>?_|refine qqC fun K hK=>?_|(refine qqD ?_;refine hK _ _ ?_;try clear hK K)|(refine qqE ?_;refine hK _ _ _ ?_ ?_;(focus kernel_rfl);try clear hK K)|(refine qqF ?_;refine hK _ _ ?_;try clear hK K)|refine qqG ?_|refine qqH ?_|refine qqI ?_|refine qqJ ?_|refine qqK ?_|(refine qqL ?_;try clear hK K)|(refine qqM ?_;try clear hK K)|refine qqN ?_|refine qqO ?_|(refine qqP ?_ ?_;focus decide))|((with_reducible first|apply qqQ|apply qqR|apply qqS);focus (simp only [go_sem, hlt, hat, cells_enc, pcells_enc, Ty.tc];exact rfl))|(with_reducible first|refine gk_tt ?_|refine gk_ff ?_|refine ck_t ?_|refine ck_f ?_)|((with_reducible first|refine gk_tf ?_|refine gk_ft ?_|refine gk_u ?_|refine gk_u' ?_);first|(intro _ e;(first|rw [qqY] at e|rw [qqZ] at e);subst e)|(intro _ _ e e';(first|rw [qqY] at e|rw [qqZ] at e);subst e;subst e'))))
      have hw' := wrapS (n := pre.length) (by unfold big at hb; omega)
      refine qqF ?_
      refine hK1 _ _ _ _ _ (LeB [] (by refine ⟨?_, ?_, ?_⟩ <;> simp only [leFr, leFb, leHp, V.ren, V.renL, V.bd, V.bdL, allL, lt, Go.Ab.get, hget, List.map_cons, List.map_nil, List.length_cons, List.length_nil, List.length_append, List.getElem?_cons_zero, List.getElem?_cons_succ, List.getElem?_nil, Option.join_some, Option.join_none, List.getD_cons_zero, List.getD_cons_succ, List.getD_nil, Nat.reduceAdd, Nat.reduceLT, Nat.reduceEqDiff, Nat.zero_add, reduceIte, if_true, if_false, and_true, true_and, renL_vcells, allL_vcells, renL_pv, leBlk_some, eq_self, true_or, or_true, reduceCtorEq, false_or, hw', List.length_append])) (ih (pre ++ [t]) (by simp [hpre]) (by simpa [wfTL, hw] using he))
set_option maxHeartbeats 8000000 in
theorem wf2_ok : ∀ t : Ty, PCall Try.prog 40 [t.enc] (bb (wfT t))
  | .mk k id ss => by
    have hrec : ∀ t ∈ ss, PCall Try.prog 40 [t.enc] (bb (wfT t)) := fun t ht => wf2_ok t
    have hrec0 : True := trivial
    refine PCall.intro' (ps := [bb (wfT (.mk k id ss))]) fn40 (by simp) fun hok => ?_
    have hss : ss.length ≤ 1099511627776 := by
      simp only [PV.okL, Ty.enc, PV.ok, encL_len, big] at hok; exact hok.1.2.2.1.1
    clear hok
    have hnn : (0 : Int) ≤ (ss.length : Int) := by omega
    unfold ac40
    simp only [argFr]
    rcases kind_cases k with hk | hk | hk | hk | hk | hk | hk | hk | hk | hk | hk | hk
    · subst hk
      have hc := inR_ok (ss.length : Int) 0 0
      cases hw : nwf 0 id ss.length with
      | true =>
        have f1 : inR (ss.length : Int) 0 0 = true := by
          revert hw; generalize (ss.length : Int) = n at hnn ⊢; intro hw; simp [nwf, inR] at hw ⊢; omega
        have f2 : decide (id < 0) = false := by
          revert hw; generalize (ss.length : Int) = n at hnn ⊢; intro hw; simp [nwf] at hw ⊢; omega
        rw [f1] at hc
        rw [show wfT (.mk 0 id ss) = wfTL ss from by simp only [wfT, hw, if_true]]
        have hs : True := trivial
        clear hrec0
        (repeat' (first|((first|(with_reducible refine qqV fun C hC=>?_)|(with_reducible refine qqW fun C hC=>?_)|((with_reducible intro C hC);(with_reducible refine qqX ?_)));(first|(simp only [go_sem, cells_enc, Ty.tc, Ty.kd, Ty.id, Ty.args, encL_len, f2, hs];(first|((with_reducible apply ACall.pure0 [] (hc));(focus (exact vwA))))));(simp only [go_sem, cells_enc, Ty.tc, Ty.kd, Ty.id, Ty.args, encL_len, f2, hs]);((with_reducible first|refine finA hC ?_|refine finD hC ?_);clear hC C))|((with_reducible first|refine qqT fun C hC=>?_|refine qqU fun C hC=>?_|intro C hC);simp only [go_sem, cells_enc, Ty.tc, Ty.kd, Ty.id, Ty.args, encL_len, f2, hs];((with_reducible first|refine finA hC ?_|refine finD hC ?_);clear hC C))|(with_reducible first|refine qqA fun K hK=>?_|refine qqB fun K hK=>?_|refine qqC fun K hK=>?_|(refine qqD ?_;refine hK _ _ ?_;try clear hK K)|(refine qqE ?_;refine hK _ _ _ ?_ ?_;(focus kernel_rfl);try clear hK K)|(refine qqF ?_;refine hK _ _ ?_;try clear hK K)|refine qqG ?_|refine qqH ?_|refine qqI ?_|refine qqJ ?_|refine qqK ?_|(refine qqL ?_;try clear hK K)|(refine qqM ?_;try clear hK K)|refine qqN ?_|refine qqO ?_|(refine qqP ?_ ?_;focus decide))|((with_reducible first|apply qqQ|apply qqR|apply qqS);focus (simp only [go_sem, cells_enc, Ty.tc, Ty.kd, Ty.id, Ty.args, encL_len, f2, hs];exact rfl))|(with_reducible first|refine gk_tt ?_|refine gk_ff ?_|refine ck_t ?_|refine ck_f ?_)|((with_reducible first|refine gk_tf ?_|refine gk_ft ?_|refine gk_u ?_|refine gk_u' ?_);first|(intro _ e;(first|rw [qqY] at e|rw [qqZ] at e);subst e)|(intro _ _ e e';(first|rw [qqY] at e|rw [qqZ] at e);subst e;subst e'))|((with_reducible refine ck_s (fun h=>?_) (fun h=>?_));all_goals ((try simp only [Bool.not_eq_true', Bool.not_eq_false'] at h);(try simp only [h, Bool.not_true, Bool.not_false]);(replace hs := And.intro h hs);clear h))|((with_reducible refine gk_s (fun h=>?_) (fun h=>?_));all_goals ((try simp only [Bool.not_eq_true', Bool.not_eq_false'] at h);(try simp only [h, Bool.not_true, Bool.not_false]);(replace hs := And.intro h hs);clear h))))
        all_goals first
          | (refine awp_loop_k _ (LeB [] (by refine ⟨?_, ?_, ?_⟩ <;> simp only [leFr, leFb, leHp, V.ren, V.renL, V.bd, V.bdL, allL, lt, Go.Ab.get, hget, List.map_cons, List.map_nil, List.length_cons, List.length_nil, List.length_append, List.getElem?_cons_zero, List.getElem?_cons_succ, List.getElem?_nil, Option.join_some, Option.join_none, List.getD_cons_zero, List.getD_cons_succ, List.getD_nil, Nat.reduceAdd, Nat.reduceLT, Nat.reduceEqDiff, Nat.zero_add, reduceIte, if_true, if_false, and_true, true_and, renL_vcells, allL_vcells, renL_pv, leBlk_some, eq_self, true_or, or_true, reduceCtorEq, false_or, c0])) (wf2_loop hss hrec hK ss [] rfl rfl); done)
          | (exfalso; clear hrec; revert hs hw; generalize (ss.length : Int) = n at hnn ⊢; intro hw hs; simp [nwf, inR] at hw hs; omega)
      | false =>
        rw [show wfT (.mk 0 id ss) = false from by simp only [wfT, hw, Bool.false_eq_true, if_false]]
        have hs : True := trivial
        clear hrec0 hrec
        (repeat' (first|((first|(with_reducible refine qqV fun C hC=>?_)|(with_reducible refine qqW fun C hC=>?_)|((with_reducible intro C hC);(with_reducible refine qqX ?_)));(first|(simp only [go_sem, cells_enc, Ty.tc, Ty.kd, Ty.id, Ty.args, encL_len, hs];(first|((with_reducible apply ACall.pure0 [] (hc));(focus (exact vwA))))));(simp only [go_sem, cells_enc, Ty.tc, Ty.kd, Ty.id, Ty.args, encL_len, hs]);((with_reducible first|refine finA hC ?_|refine finD hC ?_);clear hC C))|((with_reducible first|refine qqT fun C hC=>?_|refine qqU fun C hC=>?_|intro C hC);simp only [go_sem, cells_enc, Ty.tc, Ty.kd, Ty.id, Ty.args, encL_len, hs];((with_reducible first|refine finA hC ?_|refine finD hC ?_);clear hC C))|(with_reducible first|refine qqA fun K hK=>?_|refine qqB fun K hK=>?_|refine qqC fun K hK=>?_|(refine qqD ?_;refine hK _ _ ?_;try clear hK K)|(refine qqE ?_;refine hK _ _ _ ?_ ?_;(focus kernel_rfl);try clear hK K)|(refine qqF ?_;refine hK _ _ ?_;try clear hK K)|refine qqG ?_|refine qqH ?_|refine qqI ?_|refine qqJ ?_|refine qqK ?_|(refine qqL ?_;try clear hK K)|(refine qqM ?_;try clear hK K)|refine qqN ?_|refine qqO ?_|(refine qqP ?_ ?_;focus decide))|((with_reducible first|apply qqQ|apply qqR|apply qqS);focus (simp only [go_sem, cells_enc, Ty.tc, Ty.kd, Ty.id, Ty.args, encL_len, hs];exact rfl))|(with_reducible first|refine gk_tt ?_|refine gk_ff ?_|refine ck_t ?_|refine ck_f ?_)|((with_reducible first|refine gk_tf ?_|refine gk_ft ?_|refine gk_u ?_|refine gk_u' ?_);first|(intro _ e;(first|rw [qqY] at e|rw [qqZ] at e);subst e)|(intro _ _ e e';(first|rw [qqY] at e|rw [qqZ] at e);subst e;subst e'))|((with_reducible refine ck_s (fun h=>?_) (fun h=>?_));all_goals ((try simp only [Bool.not_eq_true', Bool.not_eq_false'] at h);(try simp only [h, Bool.not_true, Bool.not_false]);(replace hs := And.intro h hs);clear h))|((with_reducible refine gk_s (fun h=>?_) (fun h=>?_));all_goals ((try simp only [Bool.not_eq_true', Bool.not_eq_false'] at h);(try simp only [h, Bool.not_true, Bool.not_false]);(replace hs := And.intro h hs);clear h))))
        all_goals first
          | (refine retP_ret (List.range 40) rfl ?_; exact vwA)
          | (exfalso; revert hs hw; generalize (ss.length : Int) = n at hnn ⊢; intro hw hs; simp [nwf, inR] at hw hs; omega)
    · subst hk
      have hc := inR_ok (ss.length : Int) 0 0
      cases hw : nwf 3 id ss.length with
      | true =>
        have f1 : inR (ss.length : Int) 0 0 = true := by
          revert hw; generalize (ss.length : Int) = n at hnn ⊢; intro hw; simp [nwf, inR] at hw ⊢; omega
        have f2 : decide (id < 0) = false := by
          revert hw; generalize (ss.length : Int) = n at hnn ⊢; intro hw; simp [nwf] at hw ⊢; omega
        rw [f1] at hc
        rw [show wfT (.mk 3 id ss) = wfTL ss from by simp only [wfT, hw, if_true]]
        have hs : True := trivial
        clear hrec0
        (repeat' (first|((first|(with_reducible refine qqV fun C hC=>?_)|(with_reducible refine qqW fun C hC=>?_)|((with_reducible intro C hC);(with_reducible refine qqX ?_)));(first|(simp only [go_sem, cells_enc, Ty.tc, Ty.kd, Ty.id, Ty.args, encL_len, f2, hs];(first|((with_reducible apply ACall.pure0 [] (hc));(focus (exact vwA))))));(simp only [go_sem, cells_enc, Ty.tc, Ty.kd, Ty.id, Ty.args, encL_len, f2, hs]);((with_reducible first|refine finA hC ?_|refine finD hC ?_);clear hC C))|((with_reducible first|refine qqT fun C hC=>?_|refine qqU fun C hC=>?_|intro C hC);simp only [go_sem, cells_enc, Ty.tc, Ty.kd, Ty.id, Ty.args, encL_len, f2, hs];((with_reducible first|refine finA hC ?_|refine finD hC ?_);clear hC C))|(with_reducible first|refine qqA fun K hK=>?_|refine qqB fun K hK=>?_|refine qqC fun K hK=>?_|(refine qqD ?_;refine hK _ _ ?_;try clear hK K)|(refine qqE ?_;refine hK _ _ _ ?_ ?_;(focus kernel_rfl);try clear hK K)|(refine qqF ?_;refine hK _ _ ?_;try clear hK K)|refine qqG ?_|refine qqH ?_|refine qqI ?_|refine qqJ ?_|refine qqK ?_|(refine qqL ?_;try clear hK K)|(refine qqM ?_;try clear hK K)|refine qqN ?_|refine qqO ?_|(refine qqP ?_ ?_;focus decide))|((with_reducible first|apply qqQ|apply qqR|apply qqS);focus (simp only [go_sem, cells_enc, Ty.tc, Ty.kd, Ty.id, Ty.args, encL_len, f2, hs];exact rfl))|(with_reducible first|refine gk_tt ?_|refine gk_ff ?_|refine ck_t ?_|refine ck_f ?_)|((with_reducible first|refine gk_tf ?_|refine gk_ft ?_|refine gk_u ?_|refine gk_u' ?_);first|(intro _ e;(first|rw [qqY] at e|rw [qqZ] at e);subst e)|(intro _ _ e e';(first|rw [qqY] at e|rw [qqZ] at e);subst e;subst e'))|((with_reducible refine ck_s (fun h=>?_) (fun h=>?_));all_goals ((try simp only [Bool.not_eq_true', Bool.not_eq_false'] at h);(try simp only [h, Bool.not_true, Bool.not_false]);(replace hs := And.intro h hs);clear h))|((with_reducible refine gk_s (fun h=>?_) (fun h=>?_));all_goals ((try simp only [Bool.not_eq_true', Bool.not_eq_false'] at h);(try simp only [h, Bool.not_true, Bool.not_false]);(replace hs := And.intro h hs);clear h))))
        all_goals first
          | (refine awp_loop_k _ (LeB [] (by refine ⟨?_, ?_, ?_⟩ <;> simp only [leFr, leFb, leHp, V.ren, V.renL, V.bd, V.bdL, allL, lt, Go.Ab.get, hget, List.map_cons, List.map_nil, List.length_cons, List.length_nil, List.length_append, List.getElem?_cons_zero, List.getElem?_cons_succ, List.getElem?_nil, Option.join_some, Option.join_none, List.getD_cons_zero, List.getD_cons_succ, List.getD_nil, Nat.reduceAdd, Nat.reduceLT, Nat.reduceEqDiff, Nat.zero_add, reduceIte, if_true, if_false, and_true, true_and, renL_vcells, allL_vcells, renL_pv, leBlk_some, eq_self, true_or, or_true, reduceCtorEq, false_or, c0])) (wf2_loop hss hrec hK ss [] rfl rfl); done)
          | (exfalso; clear hrec; revert hs hw; generalize (ss.length : Int) = n at hnn ⊢; intro hw hs; simp [nwf, inR] at hw hs; omega)
      | false =>
        rw [show wfT (.mk 3 id ss) = false from by simp only [wfT, hw, Bool.false_eq_true, if_false]]
        have hs : True := trivial
        clear hrec0 hrec
        (repeat' (first|((first|(with_reducible refine qqV fun C hC=>?_)|(with_reducible refine qqW fun C hC=>?_)|((with_reducible intro C hC);(with_reducible refine qqX ?_)));(first|(simp only [go_sem, cells_enc, Ty.tc, Ty.kd, Ty.id, Ty.args, encL_len, hs];(first|((with_reducible apply ACall.pure0 [] (hc));(focus (exact vwA))))));(simp only [go_sem, cells_enc, Ty.tc, Ty.kd, Ty.id, Ty.args, encL_len, hs]);((with_reducible first|refine finA hC ?_|refine finD hC ?_);clear hC C))|((with_reducible first|refine qqT fun C hC=>?_|refine qqU fun C hC=>?_|intro C hC);simp only [go_sem, cells_enc, Ty.tc, Ty.kd, Ty.id, Ty.args, encL_len, hs];((with_reducible first|refine finA hC ?_|refine finD hC ?_);clear hC C))|(with_reducible first|refine qqA fun K hK=>?_|refine qqB fun K hK=>?_|refine qqC fun K hK=>?_|(refine qqD ?_;refine hK _ _ ?_;try clear hK K)|(refine qqE ?_;refine hK _ _ _ ?_ ?_;(focus kernel_rfl);try clear hK K)|(refine qqF ?_;refine hK _ _ ?_;try clear hK K)|refine qqG ?_|refine qqH ?_|refine qqI ?_|refine qqJ ?_|refine qqK ?_|(refine qqL ?_;try clear hK K)|(refine qqM ?_;try clear hK K)|refine qqN ?_|refine qqO ?_|(refine qqP ?_ ?_;focus decide))|((with_reducible first|apply qqQ|apply qqR|apply qqS);focus (simp only [go_sem, cells_enc, Ty.tc, Ty.kd, Ty.id, Ty.args, encL_len, hs];exact rfl))|(with_reducible first|refine gk_tt ?_|refine gk_ff ?_|refine ck_t ?_|refine ck_f ?_)|((with_reducible first|refine gk_tf ?_|refine gk_ft ?_|refine gk_u ?_|refine gk_u' ?_);first|(intro _ e;(first|rw [qqY] at e|rw [qqZ] at e);subst e)|(intro _ _ e e';(first|rw [qqY] at e|rw [qqZ] at e);subst e;subst e'))|((with_reducible refine ck_s (fun h=>?_) (fun h=>?_));all_goals ((try simp only [Bool.not_eq_true', Bool.not_eq_false'] at h);(try simp only [h, Bool.not_true, Bool.not_false]);(replace hs := And.intro h hs);clear h))|((with_reducible refine gk_s (fun h=>?_) (fun h=>?_));all_goals ((try simp only [Bool.not_eq_true', Bool.not_eq_false'] at h);(try simp only [h, Bool.not_true, Bool.not_false]);(replace hs := And.intro h hs);clear h))))
        all_goals first
          | (refine retP_ret (List.range 40) rfl ?_; exact vwA)
          | (exfalso; revert hs hw; generalize (ss.length : Int) = n at hnn ⊢; intro hw hs; simp [nwf, inR] at hw hs; omega)
    · subst hk
      have hc := inR_ok (ss.length : Int) 0 0
      cases hw : nwf 4 id ss.length with
      | true =>
        have f1 : inR (ss.length : Int) 0 0 = true := by
          revert hw; generalize (ss.length : Int) = n at hnn ⊢; intro hw; simp [nwf, inR] at hw ⊢; omega
        have f2 : decide (id < 0) = false := by
          revert hw; generalize (ss.length : Int) = n at hnn ⊢; intro hw; simp [nwf] at hw ⊢; omega
        rw [f1] at hc
        rw [show wfT (.mk 4 id ss) = wfTL ss from by simp only [wfT, hw, if_true]]
        have hs : True := trivial
        clear hrec0
        (repeat' (first|((first|(with_reducible refine qqV fun C hC=>?_)|(with_reducible refine qqW fun C hC=>?_)|((with_reducible intro C hC);(with_reducible refine qqX ?_)));(first|(simp only [go_sem, cells_enc, Ty.tc, Ty.kd, Ty.id, Ty.args, encL_len, f2, hs];(first|((with_reducible apply ACall.pure0 [] (hc));(focus (exact vwA))))));(simp only [go_sem, cells_enc, Ty.tc, Ty.kd, Ty.id, Ty.args, encL_len, f2, hs]);((with_reducible first|refine finA hC ?_|refine finD hC ?_);clear hC C))|((with_reducible first|refine qqT fun C hC=>?_|refine qqU fun C hC=>?_|intro C hC);simp only [go_sem, cells_enc, Ty.tc, Ty.kd, Ty.id, Ty.args, encL_len, f2, hs];((with_reducible first|refine finA hC ?_|refine finD hC ?_);clear hC C))|(with_reducible first|refine qqA fun K hK=>?_|refine qqB fun K hK=>?_|refine qqC fun K hK=>?_|(refine qqD ?_;refine hK _ _ ?_;try clear hK K)|(refine qqE ?_;refine hK _ _ _ ?_ ?_;(focus kernel_rfl);try clear hK K)|(refine qqF ?_;refine hK _ _ ?_;try clear hK K)|refine qqG ?_|refine qqH ?_|refine qqI ?_|refine qqJ ?_|refine qqK ?_|(refine qqL ?_;try clear hK K)|(refine qqM ?_;try clear hK K)|refine qqN ?_|refine qqO ?_|(refine qqP ?_ ?_;focus decide))|((with_reducible first|apply qqQ|apply qqR|apply qqS);focus (simp only [go_sem, cells_enc, Ty.tc, Ty.kd, Ty.id, Ty.args, encL_len, f2, hs];exact rfl))|(with_reducible first|refine gk_tt ?_|refine gk_ff ?_|refine ck_t ?_|refine ck_f ?_)|((with_reducible first|refine gk_tf ?_|refine gk_ft ?_|refine gk_u ?_|refine gk_u' ?_);first|(intro _ e;(first|rw [qqY] at e|rw [qqZ] at e);subst e)|(intro _ _ e e';(first|rw [qqY] at e|rw [qqZ] at e);subst e;subst e'))|((with_reducible refine ck_s (fun h=>?_) (fun h=>?_));all_goals ((try simp only [Bool.not_eq_true', Bool.not_eq_false'] at h);(try simp only [h, Bool.not_true, Bool.not_false]);(replace hs := And.intro h hs);clear h))|((with_reducible refine gk_s (fun h=>?_) (fun h=>?_));all_goals ((try simp only [Bool.not_eq_true', Bool.not_eq_false'] at h);(try simp only [h, Bool.not_true, Bool.not_false]);(replace hs := And.intro h hs);clear h))))
        all_goals first
          | (refine awp_loop_k _ (LeB [] (by refine ⟨?_, ?_, ?_⟩ <;> simp only [leFr, leFb, leHp, V.ren, V.renL, V.bd, V.bdL, allL, lt, Go.Ab.get, hget, List.map_cons, List.map_nil, List.length_cons, List.length_nil, List.length_append, List.getElem?_cons_zero, List.getElem?_cons_succ, List.getElem?_nil, Option.join_some, Option.join_none, List.getD_cons_zero, List.getD_cons_succ, List.getD_nil, Nat.reduceAdd, Nat.reduceLT, Nat.reduceEqDiff, Nat.zero_add, reduceIte, if_true, if_false, and_true, true_and, renL_vcells, allL_vcells, renL_pv, leBlk_some, eq_self, true_or, or_true, reduceCtorEq, false_or, c0])) (wf2_loop hss hrec hK ss [] rfl rfl); done)
          | (exfalso; clear hrec; revert hs hw; generalize (ss.length : Int) = n at hnn ⊢; intro hw hs; simp [nwf, inR] at hw hs; omega)
      | false =>
        rw [show wfT (.mk 4 id ss) = false from by simp only [wfT, hw, Bool.false_eq_true, if_false]]
        have hs : True := trivial
        clear hrec0 hrec
        (repeat' (first|((first|(with_reducible refine qqV fun C hC=>?_)|(with_reducible refine qqW fun C hC=>?_)|((with_reducible intro C hC);(with_reducible refine qqX ?_)));(first|(simp only [go_sem, cells_enc, Ty.tc, Ty.kd, Ty.id, Ty.args, encL_len, hs];(first|((with_reducible apply ACall.pure0 [] (hc));(focus (exact vwA))))));(simp only [go_sem, cells_enc, Ty.tc, Ty.kd, Ty.id, Ty.args, encL_len, hs]);((with_reducible first|refine finA hC ?_|refine finD hC ?_);clear hC C))|((with_reducible first|refine qqT fun C hC=>?_|refine qqU fun C hC=>?_|intro C hC);simp only [go_sem, cells_enc, Ty.tc, Ty.kd, Ty.id, Ty.args, encL_len, hs];((with_reducible first|refine finA hC ?_|refine finD hC ?_);clear hC C))|(with_reducible first|refine qqA fun K hK=>?_|refine qqB fun K hK=>?_|refine qqC fun K hK=>?_|(refine qqD ?_;refine hK _ _ ?_;try clear hK K)|(refine qqE ?_;refine hK _ _ _ ?_ ?_;(focus kernel_rfl);try clear hK K)|(refine qqF ?_;refine hK _ _ ?_;try clear hK K)|refine qqG ?_|refine qqH ?_|refine qqI ?_|refine qqJ ?_|refine qqK ?_|(refine qqL ?_;try clear hK K)|(refine qqM ?_;try clear hK K)|refine qqN ?_|refine qqO ?_|(refine qqP ?_ ?_;focus decide))|((with_reducible first|apply qqQ|apply qqR|apply qqS);focus (simp only [go_sem, cells_enc, Ty.tc, Ty.kd, Ty.id, Ty.args, encL_len, hs];exact rfl))|(with_reducible first|refine gk_tt ?_|refine gk_ff ?_|refine ck_t ?_|refine ck_f ?_)|((with_reducible first|refine gk_tf ?_|refine gk_ft ?_|refine gk_u ?_|refine gk_u' ?_);first|(intro _ e;(first|rw [qqY] at e|rw [qqZ] at e);subst e)|(intro _ _ e e';(first|rw [qqY] at e|rw [qqZ] at e);subst e;subst e'))|((with_reducible refine ck_s (fun h=>?_) (fun h=>?_));all_goals ((try simp only [Bool.not_eq_true', Bool.not_eq_false'] at h);(try simp only [h, Bool.not_true, Bool.not_false]);(replace hs := And.intro h hs);clear h))|((with_reducible refine gk_s (fun h=>?_) (fun h=>?_));all_goals ((try simp only [Bool.not_eq_true', Bool.not_eq_false'] at h);(try simp only [h, Bool.not_true, Bool.not_false]);(replace hs := And.intro h hs);clear h))))
        all_goals first
          | (refine retP_ret (List.range 40) rfl ?_; exact vwA)
          | (exfalso; revert hs hw; generalize (ss.length : Int) = n at hnn ⊢; intro hw hs; simp [nwf, inR] at hw hs; omega)
    · subst hk
      have hc := inR_ok (ss.length : Int) 0 0
      cases hw : nwf 5 id ss.length with
      | true =>
        have f1 : inR (ss.length : Int) 0 0 = true := by
          revert hw; generalize (ss.length : Int) = n at hnn ⊢; intro hw; simp [nwf, inR] at hw ⊢; omega
        have f2 : decide (id < 0) = false := by
          revert hw; generalize (ss.length : Int) = n at hnn ⊢; intro hw; simp [nwf] at hw ⊢; omega
        rw [f1] at hc
        rw [show wfT (.mk 5 id ss) = wfTL ss from by simp only [wfT, hw, if_true]]
        have hs : True := trivial
        clear hrec0
        (repeat' (first|((first|(with_reducible refine qqV fun C hC=>?_)|(with_reducible refine qqW fun C hC=>?_)|((with_reducible intro C hC);(with_reducible refine qqX ?_)));(first|(simp only [go_sem, cells_enc, Ty.tc, Ty.kd, Ty.id, Ty.args, encL_len, f2, hs];(first|((with_reducible apply ACall.pure0 [] (hc));(focus (exact vwA))))));(simp only [go_sem, cells_enc, Ty.tc, Ty.kd, Ty.id, Ty.args, encL_len, f2, hs]);((with_reducible first|refine finA hC ?_|refine finD hC ?_);clear hC C))|((with_reducible first|refine qqT fun C hC=>?_|refine qqU fun C hC=>?_|intro C hC);simp only [go_sem, cells_enc, Ty.tc, Ty.kd, Ty.id, Ty.args, encL_len, f2, hs];((with_reducible first|refine finA hC ?_|refine finD hC ?_);clear hC C))|(with_reducible first|refine qqA fun K hK=>?_|refine qqB fun K hK=>?_|refine qqC fun K hK=>?_|(refine qqD ?_;refine hK _ _ ?_;try clear hK K)|(refine qqE ?_;refine hK _ _ _ ?_ ?_;(focus kernel_rfl);try clear hK K)|(refine qqF ?_;refine hK _ _ ?_;try clear hK K)|refine qqG ?_|refine qqH ?_|refine qqI ?_|refine qqJ ?_|refine qqK ?_|(refine qqL ?_;try clear hK K)|(refine qqM ?_;try clear hK K)|refine qqN ?_|refine qqO ?_|(refine qqP ?_ ?_;focus decide))|((with_reducible first|apply qqQ|apply qqR|apply qqS);focus (simp only [go_sem, cells_enc, Ty.tc, Ty.kd, Ty.id, Ty.args, encL_len, f2, hs];exact rfl))|(with_reducible first|refine gk_tt ?_|refine gk_ff ?_|refine ck_t ?_|refine ck_f ?_)|((with_reducible first|refine gk_tf ?_|refine gk_ft ?_|refine gk_u ?_|refine gk_u' ?_);first|(intro _ e;(first|rw [qqY] at e|rw [qqZ] at e);subst e)|(intro _ _ e e';(first|rw [qqY] at e|rw [qqZ] at e);subst e;subst e'))|((with_reducible refine ck_s (fun h=>?_) (fun h=>?_));all_goals ((try simp only [Bool.not_eq_true', Bool.not_eq_false'] at h);(try simp only [h, Bool.not_true, Bool.not_false]);(replace hs := And.intro h hs);clear h))|((with_reducible refine gk_s (fun h=>?_) (fun h=>?_));all_goals ((try simp only [Bool.not_eq_true', Bool.not_eq_false'] at h);(try simp only [h, Bool.not_true, Bool.not_false]);(replace hs := And.intro h hs);clear h))))
        all_goals first
          | (refine awp_loop_k _ (LeB [] (by refine ⟨?_, ?_, ?_⟩ <;> simp only [leFr, leFb, leHp, V.ren, V.renL, V.bd, V.bdL, allL, lt, Go.Ab.get, hget, List.map_cons, List.map_nil, List.length_cons, List.length_nil, List.length_append, List.getElem?_cons_zero, List.getElem?_cons_succ, List.getElem?_nil, Option.join_some, Option.join_none, List.getD_cons_zero, List.getD_cons_succ, List.getD_nil, Nat.reduceAdd, Nat.reduceLT, Nat.reduceEqDiff, Nat.zero_add, reduceIte, if_true, if_false, and_true, true_and, renL_vcells, allL_vcells, renL_pv, leBlk_some, eq_self, true_or, or_true, reduceCtorEq, false_or, c0])) (wf2_loop hss hrec hK ss [] rfl rfl); done)
          | (exfalso; clear hrec; revert hs hw; generalize (ss.length : Int) = n at hnn ⊢; intro hw hs; simp [nwf, inR] at hw hs; omega)
      | false =>
        rw [show wfT (.mk 5 id ss) = false from by simp only [wfT, hw, Bool.false_eq_true, if_false]]
        have hs : True := trivial
        clear hrec0 hrec
        (repeat' (first|((first|(with_reducible refine qqV fun C hC=>?_)|(with_reducible refine qqW fun C hC=>?_)|((with_reducible intro C hC);(with_reducible refine qqX ?_)));(first|(simp only [go_sem, cells_enc, Ty.tc, Ty.kd, Ty.id, Ty.args, encL_len, hs];(first|((with_reducible apply ACall.pure0 [] (hc));(focus (exact vwA))))));(simp only [go_sem, cells_enc, Ty.tc, Ty.kd, Ty.id, Ty.args, encL_len, hs]);((with_reducible first|refine finA hC ?_|refine finD hC ?_);clear hC C))|((with_reducible first|refine qqT fun C hC=>?_|refine qqU fun C hC=>?_|intro C hC);simp only [go_sem, cells_enc, Ty.tc, Ty.kd, Ty.id, Ty.args, encL_len, hs];((with_reducible first|refine finA hC ?_|refine finD hC ?_);clear hC C))|(with_reducible first|refine qqA fun K hK=>?_|refine qqB fun K hK=>?_|refine qqC fun K hK=>?_|(refine qqD ?_;refine hK _ _ ?_;try clear hK K)|(refine qqE ?_;refine hK _ _ _ ?_ ?_;(focus kernel_rfl);try clear hK K)|(refine qqF ?_;refine hK _ _ ?_;try clear hK K)|refine qqG ?_|refine qqH ?_|refine qqI ?_|refine qqJ ?_|refine qqK ?_|(refine qqL ?_;try clear hK K)|(refine qqM ?_;try clear hK K)|refine qqN ?_|refine qqO ?_|(refine qqP ?_ ?_;focus decide))|((with_reducible first|apply qqQ|apply qqR|apply qqS);focus (simp only [go_sem, cells_enc, Ty.tc, Ty.kd, Ty.id, Ty.args, encL_len, hs];exact rfl))|(with_reducible first|refine gk_tt ?_|refine gk_ff ?_|refine ck_t ?_|refine ck_f ?_)|((with_reducible first|refine gk_tf ?_|refine gk_ft ?_|refine gk_u ?_|refine gk_u' ?_);first|(intro _ e;(first|rw [qqY] at e|rw [qqZ] at e);subst e)|(intro _ _ e e';(first|rw [qqY] at e|rw [qqZ] at e);subst e;subst e'))|((with_reducible refine ck_s (fun h=>?_) (fun h=>?_));all_goals ((try simp only [Bool.not_eq_true', Bool.not_eq_false'] at h);(try simp only [h, Bool.not_true, Bool.not_false]);(replace hs := And.intro h hs);clear h))|((with_reducible refine gk_s (fun h=>?_) (fun h=>?_));all_goals ((try simp only [Bool.not_eq_true', Bool.not_eq_false'] at h);(try simp only [h, Bool.not_true, Bool.not_false]);(replace hs := And.intro h hs);clear h))))
        all_goals first
          | (refine retP_ret (List.range 40) rfl ?_; exact vwA)
          | (exfalso; revert hs hw; generalize (ss.length : Int) = n at hnn ⊢; intro hw hs; simp [nwf, inR] at hw hs; omega)
    · subst hk
      have hc := inR_ok (ss.length : Int) 0 0
      cases hw : nwf 6 id ss.length with
      | true =>
        have f1 : inR (ss.length : Int) 0 0 = true := by
          revert hw; generalize (ss.length : Int) = n at hnn ⊢; intro hw; simp [nwf, inR] at hw ⊢; omega
        have f2 : decide (id < 0) = false := by
          revert hw; generalize (ss.length : Int) = n at hnn ⊢; intro hw; simp [nwf] at hw ⊢; omega
        rw [f1] at hc
        rw [show wfT (.mk 6 id ss) = wfTL ss from by simp only [wfT, hw, if_true]]
        have hs : True := trivial
        clear hrec0
        (repeat' (first|((first|(with_reducible refine qqV fun C hC=>?_)|(with_reducible refine qqW fun C hC=>?_)|((with_reducible intro C hC);(with_reducible refine qqX ?_)));(first|(simp only [go_sem, cells_enc, Ty.tc, Ty.kd, Ty.id, Ty.args, encL_len, f2, hs];(first|((with_reducible apply ACall.pure0 [] (hc));(focus (exact vwA))))));(simp only [go_sem, cells_enc, Ty.tc, Ty.kd, Ty.id, Ty.args, encL_len, f2, hs]);((with_reducible first|refine finA hC ?_|refine finD hC ?_);clear hC C))|((with_reducible first|refine qqT fun C hC=>?_|refine qqU fun C hC=>?_|intro C hC);simp only [go_sem, cells_enc, Ty.tc, Ty.kd, Ty.id, Ty.args, encL_len, f2, hs];((with_reducible first|refine finA hC ?_|refine finD hC ?_);clear hC C))|(with_reducible first|refine qqA fun K hK=>?_|refine qqB fun K hK=>?_|refine qqC fun K hK=>?_|(refine qqD ?_;refine hK _ _ ?_;try clear hK K)|(refine qqE ?_;refine hK _ _ _ ?_ ?_;(focus kernel_rfl);try clear hK K)|(refine qqF ?_;refine hK _ _ ?_;try clear hK K)|refine qqG ?_|refine qqH ?_|refine qqI ?_|refine qqJ ?_|refine qqK ?_|(refine qqL ?_;try clear hK K)|(refine qqM ?_;try clear hK K)|refine qqN ?_|refine qqO ?_|(refine qqP ?_ ?_;focus decide))|((with_reducible first|apply qqQ|apply qqR|apply qqS);focus (simp only [go_sem, cells_enc, Ty.tc, Ty.kd, Ty.id, Ty.args, encL_len, f2, hs];exact rfl))|(with_reducible first|refine gk_tt ?_|refine gk_ff ?_|refine ck_t ?_|refine ck_f ?_)|((with_reducible first|refine gk_tf ?_|refine gk_ft ?_|refine gk_u ?_|refine gk_u' ?_);first|(intro _ e;(first|rw [qqY] at e|rw [qqZ] at e);subst e)|(intro _ _ e e';(first|rw [qqY] at e|rw [qqZ] at e);subst e;subst e'))|((with_reducible refine ck_s (fun h=>?_) (fun h=>?_));all_goals ((try simp only [Bool.not_eq_true', Bool.not_eq_false'] at h);(try simp only [h, Bool.not_true, Bool.not_false]);(replace hs := And.intro h hs);clear h))|((with_reducible refine gk_s (fun h=>?_) (fun h=>?_));all_goals ((try simp only [Bool.not_eq_true', Bool.not_eq_false'] at h);(try simp only [h, Bool.not_true, Bool.not_false]);(replace hs := And.intro h hs);clear h))))
        all_goals first
          | (refine awp_loop_k _ (LeB [] (by refine ⟨?_, ?_, ?_⟩ <;> simp only [leFr, leFb, leHp, V.ren, V.renL, V.bd, V.bdL, allL, lt, Go.Ab.get, hget, List.map_cons, List.map_nil, List.length_cons, List.length_nil, List.length_append, List.getElem?_cons_zero, List.getElem?_cons_succ, List.getElem?_nil, Option.join_some, Option.join_none, List.getD_cons_zero, List.getD_cons_succ, List.getD_nil, Nat.reduceAdd, Nat.reduceLT, Nat.reduceEqDiff, Nat.zero_add, reduceIte, if_true, if_false, and_true, true_and, renL_vcells, allL_vcells, renL_pv, leBlk_some, eq_self, true_or, or_true, reduceCtorEq, false_or, c0])) (wf2_loop hss hrec hK ss [] rfl rfl); done)
          | (exfalso; clear hrec; revert hs hw; generalize (ss.length : Int) = n at hnn ⊢; intro hw hs; simp [nwf, inR] at hw hs; omega)
      | false =>
        rw [show wfT (.mk 6 id ss) = false from by simp only [wfT, hw, Bool.false_eq_true, if_false]]
        have hs : True := trivial
        clear hrec0 hrec
        (repeat' (first|((first|(with_reducible refine qqV fun C hC=>?_)|(with_reducible refine qqW fun C hC=>?_)|((with_reducible intro C hC);(with_reducible refine qqX ?_)));(first|(simp only [go_sem, cells_enc, Ty.tc, Ty.kd, Ty.id, Ty.args, encL_len, hs];(first|((with_reducible apply ACall.pure0 [] (hc));(focus (exact vwA))))));(simp only [go_sem, cells_enc, Ty.tc, Ty.kd, Ty.id, Ty.args, encL_len, hs]);((with_reducible first|refine finA hC ?_|refine finD hC ?_);clear hC C))|((with_reducible first|refine qqT fun C hC=>?_|refine qqU fun C hC=>?_|intro C hC);simp only [go_sem, cells_enc, Ty.tc, Ty.kd, Ty.id, Ty.args, encL_len, hs];((with_reducible first|refine finA hC ?_|refine finD hC ?_);clear hC C))|(with_reducible first|refine qqA fun K hK=>?_|refine qqB fun K hK=>?_|refine qqC fun K hK=>?_|(refine qqD ?_;refine hK _ _ ?_;try clear hK K)|(refine qqE ?_;refine hK _ _ _ ?_ ?_;(focus kernel_rfl);try clear hK K)|(refine qqF ?_;refine hK _ _ ?_;try clear hK K)|refine qqG ?_|refine qqH ?_|refine qqI ?_|refine qqJ ?_|refine qqK ?_|(refine qqL ?_;try clear hK K)|(refine qqM ?_;try clear hK K)|refine qqN ?_|refine qqO ?_|(refine qqP ?_ ?_;focus decide))|((with_reducible first|apply qqQ|apply qqR|apply qqS);focus (simp only [go_sem, cells_enc, Ty.tc, Ty.kd, Ty.id, Ty.args, encL_len, hs];exact rfl))|(with_reducible first|refine gk_tt ?_|refine gk_ff ?_|refine ck_t ?_|refine ck_f ?_)|((with_reducible first|refine gk_tf ?_|refine gk_ft ?_|refine gk_u ?_|refine gk_u' ?_);first|(intro _ e;(first|rw [qqY] at e|rw [qqZ] at e);subst e)|(intro _ _ e e';(first|rw [qqY] at e|rw [qqZ] at e);subst e;subst e'))|((with_reducible refine ck_s (fun h=>?_) (fun h=>?_));all_goals ((try simp only [Bool.not_eq_true', Bool.not_eq_false'] at h);(try simp only [h, Bool.not_true, Bool.not_false]);(replace hs := And.intro h hs);clear h))|((with_reducible refine gk_s (fun h=>?_) (fun h=>?_));all_goals ((try simp only [Bool.not_eq_true', Bool.not_eq_false'] at h);(try simp only [h, Bool.not_true, Bool.not_false]);(replace hs := And.intro h hs);clear h))))
        all_goals first
          | (refine retP_ret (List.range 40) rfl ?_; exact vwA)
          | (exfalso; revert hs hw; generalize (ss.length : Int) = n at hnn ⊢; intro hw hs; simp [nwf, inR] at hw hs; omega)
    · subst hk
      have hc := inR_ok (ss.length : Int) 0 0
      cases hw : nwf 1 id ss.length with
      | true =>
        have f1 : inR (ss.length : Int) 0 0 = true := by
          revert hw; generalize (ss.length : Int) = n at hnn ⊢; intro hw; simp [nwf, inR] at hw ⊢; omega
        have f2 : decide (id < 0) = false := by
          revert hw; generalize (ss.length : Int) = n at hnn ⊢; intro hw; simp [nwf] at hw ⊢; omega
        rw [f1] at hc
        rw [show wfT (.mk 1 id ss) = wfTL ss from by simp only [wfT, hw, if_true]]
        have hs : True := trivial
        clear hrec0
        (repeat' (first|((first|(with_reducible refine qqV fun C hC=>?_)|(with_reducible refine qqW fun C hC=>?_)|((with_reducible intro C hC);(with_reducible refine qqX ?_)));(first|(simp only [go_sem, cells_enc, Ty.tc, Ty.kd, Ty.id, Ty.args, encL_len, f2, hs];(first|((with_reducible apply ACall.pure0 [] (hc));(focus (exact vwA))))));(simp only [go_sem, cells_enc, Ty.tc, Ty.kd, Ty.id, Ty.args, encL_len, f2, hs]);((with_reducible first|refine finA hC ?_|refine finD hC ?_);clear hC C))|((with_reducible first|refine qqT fun C hC=>?_|refine qqU fun C hC=>?_|intro C hC);simp only [go_sem, cells_enc, Ty.tc, Ty.kd, Ty.id, Ty.args, encL_len, f2, hs];((with_reducible first|refine finA hC ?_|refine finD hC ?_);clear hC C))|(with_reducible first|refine qqA fun K hK=>?_|refine qqB fun K hK=>?_|refine qqC fun K hK=>?_|(refine qqD ?_;refine hK _ _ ?_;try clear hK K)|(refine qqE ?_;refine hK _ _ _ ?_ ?_;(focus kernel_rfl);try clear hK K)|(refine qqF ?_;refine hK _ _ ?_;try clear hK K)|refine qqG ?_|refine qqH ?_|refine qqI ?_|refine qqJ ?_|refine qqK ?_|(refine qqL ?_;try clear hK K)|(refine qqM ?_;try clear hK K)|refine qqN ?_|refine qqO ?_|(refine qqP ?_ ?_;focus decide))|((with_reducible first|apply qqQ|apply qqR|apply qqS);focus (simp only [go_sem, cells_enc, Ty.tc, Ty.kd, Ty.id, Ty.args, encL_len, f2, hs];exact rfl))|(with_reducible first|refine gk_tt ?_|refine gk_ff ?_|refine ck_t ?_|refine ck_f ?_)|((with_reducible first|refine gk_tf ?_|refine gk_ft ?_|refine gk_u ?_|refine gk_u' ?_);first|(intro _ e;(first|rw [qqY] at e|rw [qqZ] at e);subst e)|(intro _ _ e e';(first|rw [qqY] at e|rw [qqZ] at e);subst e;subst e'))|((with_reducible refine ck_s (fun h=>?_) (fun h=>?_));all_goals ((try simp only [Bool.not_eq_true', Bool.not_eq_false'] at h);(try simp only [h, Bool.not_true, Bool.not_false]);(replace hs := And.intro h hs);clear h))|((with_reducible refine gk_s (fun h=>?_) (fun h=>?_));all_goals ((try simp only [Bool.not_eq_true', Bool.not_eq_false'] at h);(try simp only [h, Bool.not_true, Bool.not_false]);(replace hs := And.intro h hs);clear h))))
        all_goals first
          | (refine awp_loop_k _ (LeB [] (by refine ⟨?_, ?_, ?_⟩ <;> simp only [leFr, leFb, leHp, V.ren, V.renL, V.bd, V.bdL, allL, lt, Go.Ab.get, hget, List.map_cons, List.map_nil, List.length_cons, List.length_nil, List.length_append, List.getElem?_cons_zero, List.getElem?_cons_succ, List.getElem?_nil, Option.join_some, Option.join_none, List.getD_cons_zero, List.getD_cons_succ, List.getD_nil, Nat.reduceAdd, Nat.reduceLT, Nat.reduceEqDiff, Nat.zero_add, reduceIte, if_true, if_false, and_true, true_and, renL_vcells, allL_vcells, renL_pv, leBlk_some, eq_self, true_or, or_true, reduceCtorEq, false_or, c0])) (wf2_loop hss hrec hK ss [] rfl rfl); done)
          | (exfalso; clear hrec; revert hs hw; generalize (ss.length : Int) = n at hnn ⊢; intro hw hs; simp [nwf, inR] at hw hs; omega)
      | false =>
        rw [show wfT (.mk 1 id ss) = false from by simp only [wfT, hw, Bool.false_eq_true, if_false]]
        have hs : True := trivial
        clear hrec0 hrec
        (repeat' (first|((first|(with_reducible refine qqV fun C hC=>?_)|(with_reducible refine qqW fun C hC=>?_)|((with_reducible intro C hC);(with_reducible refine qqX ?_)));(first|(simp only [go_sem, cells_enc, Ty.tc, Ty.kd, Ty.id, Ty.args, encL_len, hs];(first|((with_reducible apply ACall.pure0 [] (hc));(focus (exact vwA))))));(simp only [go_sem, cells_enc, Ty.tc, Ty.kd, Ty.id, Ty.args, encL_len, hs]);((with_reducible first|refine finA hC ?_|refine finD hC ?_);clear hC C))|((with_reducible first|refine qqT fun C hC=>?_|refine qqU fun C hC=>?_|intro C hC);simp only [go_sem, cells_enc, Ty.tc, Ty.kd, Ty.id, Ty.args, encL_len, hs];((with_reducible first|refine finA hC ?_|refine finD hC ?_);clear hC C))|(with_reducible first|refine qqA fun K hK=>?_|refine qqB fun K hK=>?_|refine qqC fun K hK=>?_|(refine qqD ?_;refine hK _ _ ?_;try clear hK K)|(refine qqE ?_;refine hK _ _ _ ?_ ?_;(focus kernel_rfl);try clear hK K)|(refine qqF ?_;refine hK _ _ ?_;try clear hK K)|refine qqG ?_|refine qqH ?_|refine qqI ?_|refine qqJ ?_|refine qqK ?_|(refine qqL ?_;try clear hK K)|(refine qqM ?_;try clear hK K)|refine qqN ?_|refine qqO ?_|(refine qqP ?_ ?_;focus decide))|((with_reducible first|apply qqQ|apply qqR|apply qqS);focus (simp only [go_sem, cells_enc, Ty.tc, Ty.kd, Ty.id, Ty.args, encL_len, hs];exact rfl))|(with_reducible first|refine gk_tt ?_|refine gk_ff ?_|refine ck_t ?_|refine ck_f ?_)|((with_reducible first|refine gk_tf ?_|refine gk_ft ?_|refine gk_u ?_|refine gk_u' ?_);first|(intro _ e;(first|rw [qqY] at e|rw [qqZ] at e);subst e)|(intro _ _ e e';(first|rw [qqY] at e|rw [qqZ] at e);subst e;subst e'))|((with_reducible refine ck_s (fun h=>?_) (fun h=>?_));all_goals ((try simp only [Bool.not_eq_true', Bool.not_eq_false'] at h);(try simp only [h, Bool.not_true, Bool.not_false]);(replace hs := And.intro h hs);clear h))|((with_reducible refine gk_s (fun h=>?_) (fun h=>?_));all_goals ((try simp only [Bool.not_eq_true', Bool.not_eq_false'] at h);(try simp only [h, Bool.not_true, Bool.not_false]);(replace hs := And.intro h hs);clear h))))
        all_goals first
          | (refine retP_ret (List.range 40) rfl ?_; exact vwA)
          | (exfalso; revert hs hw; generalize (ss.length : Int) = n at hnn ⊢; intro hw hs; simp [nwf, inR] at hw hs; omega)
    · subst hk
      have hc := inR_ok (ss.length : Int) 0 0
      cases hw : nwf 2 id ss.length with
      | true =>
        have f1 : inR (ss.length : Int) 0 0 = true := by
          revert hw; generalize (ss.length : Int) = n at hnn ⊢; intro hw; simp [nwf, inR] at hw ⊢; omega
        have f2 : decide (id < 0) = false := by
          revert hw; generalize (ss.length : Int) = n at hnn ⊢; intro hw; simp [nwf] at hw ⊢; omega
        rw [f1] at hc
        rw [show wfT (.mk 2 id ss) = wfTL ss from by simp only [wfT, hw, if_true]]
        have hs : True := trivial
        clear hrec0
        (repeat' (first|((first|(with_reducible refine qqV fun C hC=>?_)|(with_reducible refine qqW fun C hC=>?_)|((with_reducible intro C hC);(with_reducible refine qqX ?_)));(first|(simp only [go_sem, cells_enc, Ty.tc, Ty.kd, Ty.id, Ty.args, encL_len, f2, hs];(first|((with_reducible apply ACall.pure0 [] (hc));(focus (exact vwA))))));(simp only [go_sem, cells_enc, Ty.tc, Ty.kd, Ty.id, Ty.args, encL_len, f2, hs]);((with_reducible first|refine finA hC ?_|refine finD hC ?_);clear hC C))|((with_reducible first|refine qqT fun C hC=>?_|refine qqU fun C hC=>?_|intro C hC);simp only [go_sem, cells_enc, Ty.tc, Ty.kd, Ty.id, Ty.args, encL_len, f2, hs];((with_reducible first|refine finA hC ?_|refine finD hC ?_);clear hC C))|(with_reducible first|refine qqA fun K hK=>?_|refine qqB fun K hK=>?_|refine qqC fun K hK=>?_|(refine qqD ?_;refine hK _ _ ?_;try clear hK K)|(refine qqE ?_;refine hK _ _ _ ?_ ?_;(focus kernel_rfl);try clear hK K)|(refine qqF ?_;refine hK _ _ ?_;try clear hK K)|refine qqG ?_|refine qqH ?_|refine qqI ?_|refine qqJ ?_|refine qqK ?_|(refine qqL ?_;try clear hK K)|(refine qqM ?_;try clear hK K)|refine qqN ?_|refine qqO ?_|(refine qqP ?_ ?_;focus decide))|((with_reducible first|apply qqQ|apply qqR|apply qqS);focus (simp only [go_sem, cells_enc, Ty.tc, Ty.kd, Ty.id, Ty.args, encL_len, f2, hs];exact rfl))|(with_reducible first|refine gk_tt ?_|refine gk_ff ?_|refine ck_t ?_|refine ck_f ?_)|((with_reducible first|refine gk_tf ?_|refine gk_ft ?_|refine gk_u ?_|refine gk_u' ?_);first|(intro _ e;(first|rw [qqY] at e|rw [qqZ] at e);subst e)|(intro _ _ e e';(first|rw [qqY] at e|rw [qqZ] at e);subst e;subst e'))|((with_reducible refine ck_s (fun h=>?_) (fun h=>?_));all_goals ((try simp only [Bool.not_eq_true', Bool.not_eq_false'] at h);(try simp only [h, Bool.not_true, Bool.not_false]);(replace hs := And.intro h hs);clear h))|((with_reducible refine gk_s (fun h=>?_) (fun h=>?_));all_goals ((try simp only [Bool.not_eq_true', Bool.not_eq_false'] at h);(try simp only [h, Bool.not_true, Bool.not_false]);(replace hs := And.intro h hs);clear h))))
        all_goals first
          | (refine awp_loop_k _ (LeB [] (by refine ⟨?_, ?_, ?_⟩ <;> simp only [leFr, leFb, leHp, V.ren, V.renL, V.bd, V.bdL, allL, lt, Go.Ab.get, hget, List.map_cons, List.map_nil, List.length_cons, List.length_nil, List.length_append, List.getElem?_cons_zero, List.getElem?_cons_succ, List.getElem?_nil, Option.join_some, Option.join_none, List.getD_cons_zero, List.getD_cons_succ, List.getD_nil, Nat.reduceAdd, Nat.reduceLT, Nat.reduceEqDiff, Nat.zero_add, reduceIte, if_true, if_false, and_true, true_and, renL_vcells, allL_vcells, renL_pv, leBlk_some, eq_self, true_or, or_true, reduceCtorEq, false_or, c0])) (wf2_loop hss hrec hK ss [] rfl rfl); done)
          | (exfalso; clear hrec; revert hs hw; generalize (ss.length : Int) = n at hnn ⊢; intro hw hs; simp [nwf, inR] at hw hs; omega)
      | false =>
        rw [show wfT (.mk 2 id ss) = false from by simp only [wfT, hw, Bool.false_eq_true, if_false]]
        have hs : True := trivial
        clear hrec0 hrec
        (repeat' (first|((first|(with_reducible refine qqV fun C hC=>?_)|(with_reducible refine qqW fun C hC=>?_)|((with_reducible intro C hC);(with_reducible refine qqX ?_)));(first|(simp only [go_sem, cells_enc, Ty.tc, Ty.kd, Ty.id, Ty.args, encL_len, hs];(first|((with_reducible apply ACall.pure0 [] (hc));(focus (exact vwA))))));(simp only [go_sem, cells_enc, Ty.tc, Ty.kd, Ty.id, Ty.args, encL_len, hs]);((with_reducible first|refine finA hC ?_|refine finD hC ?_);clear hC C))|((with_reducible first|refine qqT fun C hC=>?_|refine qqU fun C hC=>?_|intro C hC);simp only [go_sem, cells_enc, Ty.tc, Ty.kd, Ty.id, Ty.args, encL_len, hs];((with_reducible first|refine finA hC ?_|refine finD hC ?_);clear hC C))|(with_reducible first|refine qqA fun K hK=>?_|refine qqB fun K hK=>?_|refine qqC fun K hK=>?_|(refine qqD ?_;refine hK _ _ ?_;try clear hK K)|(refine qqE ?_;refine hK _ _ _ ?_ ?_;(focus kernel_rfl);try clear hK K)|(refine qqF ?_;refine hK _ _ ?_;try clear hK K)|refine qqG ?_|refine qqH ?_|refine qqI ?_|refine qqJ ?_|refine qqK ?_|(refine qqL ?_;try clear hK K)|(refine qqM ?_;try clear hK K)|refine qqN ?_|refine qqO ?_|(refine qqP ?_ ?_;focus decide))|((with_reducible first|apply qqQ|apply qqR|apply qqS);focus (simp only [go_sem, cells_enc, Ty.tc, Ty.kd, Ty.id, Ty.args, encL_len, hs];exact rfl))|(with_reducible first|refine gk_tt ?_|refine gk_ff ?_|refine ck_t ?_|refine ck_f ?_)|((with_reducible first|refine gk_tf ?_|refine gk_ft ?_|refine gk_u ?_|refine gk_u' ?_);first|(intro _ e;(first|rw [qqY] at e|rw [qqZ] at e);subst e)|(intro _ _ e e';(first|rw [qqY] at e|rw [qqZ] at e);subst e;subst e'))|((with_reducible refine ck_s (fun h=>?_) (fun h=>?_));all_goals ((try simp only [Bool.not_eq_true', Bool.not_eq_false'] at h);(try simp only [h, Bool.not_true, Bool.not_false]);(replace hs := And.intro h hs);clear h))|((with_reducible refine gk_s (fun h=>?_) (fun h=>?_));all_goals ((try simp only [Bool.not_eq_true', Bool.not_eq_false'] at h);(try simp only [h, Bool.not_true, Bool.not_false]);(replace hs := And.intro h hs);clear h))))
        all_goals first
          | (refine retP_ret (List.range 40) rfl ?_; exact vwA)
          | (exfalso; revert hs hw; generalize (ss.length : Int) = n at hnn ⊢; intro hw hs; simp [nwf, inR] at hw hs; omega)
    · subst hk
      have hc := inR_ok (ss.length : Int) 0 (ss.length : Int)
      cases hw : nwf 7 id ss.length with
      | true =>
        have f1 : inR (ss.length : Int) 0 (ss.length : Int) = true := by
          revert hw; generalize (ss.length : Int) = n at hnn ⊢; intro hw; simp [nwf, inR] at hw ⊢; omega
        have f2 : decide (id < 0) = false := by
          revert hw; generalize (ss.length : Int) = n at hnn ⊢; intro hw; simp [nwf] at hw ⊢; omega
        rw [f1] at hc
        rw [show wfT (.mk 7 id ss) = wfTL ss from by simp only [wfT, hw, if_true]]
        have hs : True := trivial
        clear hrec0
        (repeat' (first|((first|(with_reducible refine qqV fun C hC=>?_)|(with_reducible refine qqW fun C hC=>?_)|((with_reducible intro C hC);(with_reducible refine qqX ?_)));(first|(simp only [go_sem, cells_enc, Ty.tc, Ty.kd, Ty.id, Ty.args, encL_len, f2, hs];(first|((with_reducible apply ACall.pure0 [] (hc));(focus (exact vwA))))));(simp only [go_sem, cells_enc, Ty.tc, Ty.kd, Ty.id, Ty.args, encL_len, f2, hs]);((with_reducible first|refine finA hC ?_|refine finD hC ?_);clear hC C))|((with_reducible first|refine qqT fun C hC=>?_|refine qqU fun C hC=>?_|intro C hC);simp only [go_sem, cells_enc, Ty.tc, Ty.kd, Ty.id, Ty.args, encL_len, f2, hs];((with_reducible first|refine finA hC ?_|refine finD hC ?_);clear hC C))|(with_reducible first|refine qqA fun K hK=>?_|refine qqB fun K hK=>?_|refine qqC fun K hK=>?_|(refine qqD ?_;refine hK _ _ ?_;try clear hK K)|(refine qqE ?_;refine hK _ _ _ ?_ ?_;(focus kernel_rfl);try clear hK K)|(refine qqF ?_;refine hK _ _ ?_;try clear hK K)|refine qqG ?_|refine qqH ?_|refine qqI ?_|refine qqJ ?_|refine qqK ?_|(refine qqL ?_;try clear hK K)|(refine qqM ?_;try clear hK K)|refine qqN ?_|refine qqO ?_|(refine qqP ?_ ?_;focus decide))|((with_reducible first|apply qqQ|apply qqR|apply qqS);focus (simp only [go_sem, cells_enc, Ty.tc, Ty.kd, Ty.id, Ty.args, encL_len, f2, hs];exact rfl))|(with_reducible first|refine gk_tt ?_|refine gk_ff ?_|refine ck_t ?_|refine ck_f ?_)|((with_reducible first|refine gk_tf ?_|refine gk_ft ?_|refine gk_u ?_|refine gk_u' ?_);first|(intro _ e;(first|rw [qqY] at e|rw [qqZ] at e);subst e)|(intro _ _ e e';(first|rw [qqY] at e|rw [qqZ] at e);subst e;subst e'))|((with_reducible refine ck_s (fun h=>?_) (fun h=>?_));all_goals ((try simp only [Bool.not_eq_true', Bool.not_eq_false'] at h);(try simp only [h, Bool.not_true, Bool.not_false]);(replace hs := And.intro h hs);clear h))|((with_reducible refine gk_s (fun h=>?_) (fun h=>?_));all_goals ((try simp only [Bool.not_eq_true', Bool.not_eq_false'] at h);(try simp only [h, Bool.not_true, Bool.not_false]);(replace hs := And.intro h hs);clear h))))
        all_goals first
          | (refine awp_loop_k _ (LeB [] (by refine ⟨?_, ?_, ?_⟩ <;> simp only [leFr, leFb, leHp, V.ren, V.renL, V.bd, V.bdL, allL, lt, Go.Ab.get, hget, List.map_cons, List.map_nil, List.length_cons, List.length_nil, List.length_append, List.getElem?_cons_zero, List.getElem?_cons_succ, List.getElem?_nil, Option.join_some, Option.join_none, List.getD_cons_zero, List.getD_cons_succ, List.getD_nil, Nat.reduceAdd, Nat.reduceLT, Nat.reduceEqDiff, Nat.zero_add, reduceIte, if_true, if_false, and_true, true_and, renL_vcells, allL_vcells, renL_pv, leBlk_some, eq_self, true_or, or_true, reduceCtorEq, false_or, c0])) (wf2_loop hss hrec hK ss [] rfl rfl); done)
          | (exfalso; clear hrec; revert hs hw; generalize (ss.length : Int) = n at hnn ⊢; intro hw hs; simp [nwf, inR] at hw hs; omega)
      | false =>
        rw [show wfT (.mk 7 id ss) = false from by simp only [wfT, hw, Bool.false_eq_true, if_false]]
        have hs : True := trivial
        clear hrec0 hrec
        (repeat' (first|((first|(with_reducible refine qqV fun C hC=>?_)|(with_reducible refine qqW fun C hC=>?_)|((with_reducible intro C hC);(with_reducible refine qqX ?_)));(first|(simp only [go_sem, cells_enc, Ty.tc, Ty.kd, Ty.id, Ty.args, encL_len, hs];(first|((with_reducible apply ACall.pure0 [] (hc));(focus (exact vwA))))));(simp only [go_sem, cells_enc, Ty.tc, Ty.kd, Ty.id, Ty.args, encL_len, hs]);((with_reducible first|refine finA hC ?_|refine finD hC ?_);clear hC C))|((with_reducible first|refine qqT fun C hC=>?_|refine qqU fun C hC=>?_|intro C hC);simp only [go_sem, cells_enc, Ty.tc, Ty.kd, Ty.id, Ty.args, encL_len, hs];((with_reducible first|refine finA hC ?_|refine finD hC ?_);clear hC C))|(with_reducible first|refine qqA fun K hK=>?_|refine qqB fun K hK=>?_|refine qqC fun K hK=>?_|(refine qqD ?_;refine hK _ _ ?_;try clear hK K)|(refine qqE ?_;refine hK _ _ _ ?_ ?_;(focus kernel_rfl);try clear hK K)|(refine qqF ?_;refine hK _ _ ?_;try clear hK K)|refine qqG ?_|refine qqH ?_|refine qqI ?_|refine qqJ ?_|refine qqK ?_|(refine qqL ?_;try clear hK K)|(refine qqM ?_;try clear hK K)|refine qqN ?_|refine qqO ?_|(refine qqP ?_ ?_;focus decide))|((with_reducible first|apply qqQ|apply qqR|apply qqS);focus (simp only [go_sem, cells_enc, Ty.tc, Ty.kd, Ty.id, Ty.args, encL_len, hs];exact rfl))|(with_reducible first|refine gk_tt ?_|refine gk_ff ?_|refine ck_t ?_|refine ck_f ?_)|((with_reducible first|refine gk_tf ?_|refine gk_ft ?_|refine gk_u ?_|refine gk_u' ?_);first|(intro _ e;(first|rw [qqY] at e|rw [qqZ] at e);subst e)|(intro _ _ e e';(first|rw [qqY] at e|rw [qqZ] at e);subst e;subst e'))|((with_reducible refine ck_s (fun h=>?_) (fun h=>?_));all_goals ((try simp only [Bool.not_eq_true', Bool.not_eq_false'] at h);(try simp only [h, Bool.not_true, Bool.not_false]);(replace hs := And.intro h hs);clear h))|((with_reducible refine gk_s (fun h=>?_) (fun h=>?_));all_goals ((try simp only [Bool.not_eq_true', Bool.not_eq_false'] at h);(try simp only [h, Bool.not_true, Bool.not_false]);(replace hs := And.intro h hs);clear h))))
        all_goals first
          | (refine retP_ret (List.range 40) rfl ?_; exact vwA)
          | (exfalso; revert hs hw; generalize (ss.length : Int) = n at hnn ⊢; intro hw hs; simp [nwf, inR] at hw hs; omega)
    · subst hk
      have hc := inR_ok (ss.length : Int) 1 1
      cases hw : nwf 8 id ss.length with
      | true =>
        have f1 : inR (ss.length : Int) 1 1 = true := by
          revert hw; generalize (ss.length : Int) = n at hnn ⊢; intro hw; simp [nwf, inR] at hw ⊢; omega
        have f2 : decide (id < 0) = false := by
          revert hw; generalize (ss.length : Int) = n at hnn ⊢; intro hw; simp [nwf] at hw ⊢; omega
        rw [f1] at hc
        rw [show wfT (.mk 8 id ss) = wfTL ss from by simp only [wfT, hw, if_true]]
        have hs : True := trivial
        clear hrec0
        (repeat' (first|((first|(with_reducible refine qqV fun C hC=>?_)|(with_reducible refine qqW fun C hC=>?_)|((with_reducible intro C hC);(with_reducible refine qqX ?_)));(first|(simp only [go_sem, cells_enc, Ty.tc, Ty.kd, Ty.id, Ty.args, encL_len, f2, hs];(first|((with_reducible apply ACall.pure0 [] (hc));(focus (exact vwA))))));(simp only [go_sem, cells_enc, Ty.tc, Ty.kd, Ty.id, Ty.args, encL_len, f2, hs]);((with_reducible first|refine finA hC ?_|refine finD hC ?_);clear hC C))|((with_reducible first|refine qqT fun C hC=>?_|refine qqU fun C hC=>?_|intro C hC);simp only [go_sem, cells_enc, Ty.tc, Ty.kd, Ty.id, Ty.args, encL_len, f2, hs];((with_reducible first|refine finA hC ?_|refine finD hC ?_);clear hC C))|(with_reducible first|refine qqA fun K hK=>?_|refine qqB fun K hK=>?_|refine qqC fun K hK=>?_|(refine qqD ?_;refine hK _ _ ?_;try clear hK K)|(refine qqE ?_;refine hK _ _ _ ?_ ?_;(focus kernel_rfl);try clear hK K)|(refine qqF ?_;refine hK _ _ ?_;try clear hK K)|refine qqG ?_|refine qqH ?_|refine qqI ?_|refine qqJ ?_|refine qqK ?_|(refine qqL ?_;try clear hK K)|(refine qqM ?_;try clear hK K)|refine qqN ?_|refine qqO ?_|(refine qqP ?_ ?_;focus decide))|((with_reducible first|apply qqQ|apply qqR|apply qqS);focus (simp only [go_sem, cells_enc, Ty.tc, Ty.kd, Ty.id, Ty.args, encL_len, f2, hs];exact rfl))|(with_reducible first|refine gk_tt ?_|refine gk_ff ?_|refine ck_t ?_|refine ck_f ?_)|((with_reducible first|refine gk_tf ?_|refine gk_ft ?_|refine gk_u ?_|refine gk_u' ?_);first|(intro _ e;(first|rw [qqY] at e|rw [qqZ] at e);subst e)|(intro _ _ e e';(first|rw [qqY] at e|rw [qqZ] at e);subst e;subst e'))|((with_reducible refine ck_s (fun h=>?_) (fun h=>?_));all_goals ((try simp only [Bool.not_eq_true', Bool.not_eq_false'] at h);(try simp only [h, Bool.not_true, Bool.not_false]);(replace hs := And.intro h hs);clear h))|((with_reducible refine gk_s (fun h=>?_) (fun h=>?_));all_goals ((try simp only [Bool.not_eq_true', Bool.not_eq_false'] at h);(try simp only [h, Bool.not_true, Bool.not_false]);(replace hs := And.intro h hs);clear h))))
        all_goals first
          | (refine awp_loop_k _ (LeB [] (by refine ⟨?_, ?_, ?_⟩ <;> simp only [leFr, leFb, leHp, V.ren, V.renL, V.bd, V.bdL, allL, lt, Go.Ab.get, hget, List.map_cons, List.map_nil, List.length_cons, List.length_nil, List.length_append, List.getElem?_cons_zero, List.getElem?_cons_succ, List.getElem?_nil, Option.join_some, Option.join_none, List.getD_cons_zero, List.getD_cons_succ, List.getD_nil, Nat.reduceAdd, Nat.reduceLT, Nat.reduceEqDiff, Nat.zero_add, reduceIte, if_true, if_false, and_true, true_and, renL_vcells, allL_vcells, renL_pv, leBlk_some, eq_self, true_or, or_true, reduceCtorEq, false_or, c0])) (wf2_loop hss hrec hK ss [] rfl rfl); done)
          | (exfalso; clear hrec; revert hs hw; generalize (ss.length : Int) = n at hnn ⊢; intro hw hs; simp [nwf, inR] at hw hs; omega)
      | false =>
        rw [show wfT (.mk 8 id ss) = false from by simp only [wfT, hw, Bool.false_eq_true, if_false]]
        have hs : True := trivial
        clear hrec0 hrec
        (repeat' (first|((first|(with_reducible refine qqV fun C hC=>?_)|(with_reducible refine qqW fun C hC=>?_)|((with_reducible intro C hC);(with_reducible refine qqX ?_)));(first|(simp only [go_sem, cells_enc, Ty.tc, Ty.kd, Ty.id, Ty.args, encL_len, hs];(first|((with_reducible apply ACall.pure0 [] (hc));(focus (exact vwA))))));(simp only [go_sem, cells_enc, Ty.tc, Ty.kd, Ty.id, Ty.args, encL_len, hs]);((with_reducible first|refine finA hC ?_|refine finD hC ?_);clear hC C))|((with_reducible first|refine qqT fun C hC=>?_|refine qqU fun C hC=>?_|intro C hC);simp only [go_sem, cells_enc, Ty.tc, Ty.kd, Ty.id, Ty.args, encL_len, hs];((with_reducible first|refine finA hC ?_|refine finD hC ?_);clear hC C))|(with_reducible first|refine qqA fun K hK=>?_|refine qqB fun K hK=>?_|refine qqC fun K hK=>?_|(refine qqD ?_;refine hK _ _ ?_;try clear hK K)|(refine qqE ?_;refine hK _ _ _ ?_ ?_;(focus kernel_rfl);try clear hK K)|(refine qqF ?_;refine hK _ _ ?_;try clear hK K)|refine qqG ?_|refine qqH ?_|refine qqI ?_|refine qqJ ?_|refine qqK ?_|(refine qqL ?_;try clear hK K)|(refine qqM ?_;try clear hK K)|refine qqN ?_|refine qqO ?_|(refine qqP ?_ ?_;focus decide))|((with_reducible first|apply qqQ|apply qqR|apply qqS);focus (simp only [go_sem, cells_enc, Ty.tc, Ty.kd, Ty.id, Ty.args, encL_len, hs];exact rfl))|(with_reducible first|refine gk_tt ?_|refine gk_ff ?_|refine ck_t ?_|refine ck_f ?_)|((with_reducible first|refine gk_tf ?_|refine gk_ft ?_|refine gk_u ?_|refine gk_u' ?_);first|(intro _ e;(first|rw [qqY] at e|rw [qqZ] at e);subst e)|(intro _ _ e e';(first|rw [qqY] at e|rw [qqZ] at e);subst e;subst e'))|((with_reducible refine ck_s (fun h=>?_) (fun h=>?_));all_goals ((try simp only [Bool.not_eq_true', Bool.not_eq_false'] at h);(try simp only [h, Bool.not_true, Bool.not_false]);(replace hs := And.intro h hs);clear h))|((with_reducible refine gk_s (fun h=>?_) (fun h=>?_));all_goals ((try simp only [Bool.not_eq_true', Bool.not_eq_false'] at h);(try simp only [h, Bool.not_true, Bool.not_false]);(replace hs := And.intro h hs);clear h))))
        all_goals first
          | (refine retP_ret (List.range 40) rfl ?_; exact vwA)
          | (exfalso; revert hs hw; generalize (ss.length : Int) = n at hnn ⊢; intro hw hs; simp [nwf, inR] at hw hs; omega)
    · subst hk
      have hc := inR_ok (ss.length : Int) 1 (ss.length : Int)
      cases hw : nwf 9 id ss.length with
      | true =>
        have f1 : inR (ss.length : Int) 1 (ss.length : Int) = true := by
          revert hw; generalize (ss.length : Int) = n at hnn ⊢; intro hw; simp [nwf, inR] at hw ⊢; omega
        have f2 : decide (id < 0) = false := by
          revert hw; generalize (ss.length : Int) = n at hnn ⊢; intro hw; simp [nwf] at hw ⊢; omega
        rw [f1] at hc
        rw [show wfT (.mk 9 id ss) = wfTL ss from by simp only [wfT, hw, if_true]]
        have hs : True := trivial
        clear hrec0
        (repeat' (first|((first|(with_reducible refine qqV fun C hC=>?_)|(with_reducible refine qqW fun C hC=>?_)|((with_reducible intro C hC);(with_reducible refine qqX ?_)));(first|(simp only [go_sem, cells_enc, Ty.tc, Ty.kd, Ty.id, Ty.args, encL_len, f2, hs];(first|((with_reducible apply ACall.pure0 [] (hc));(focus (exact vwA))))));(simp only [go_sem, cells_enc, Ty.tc, Ty.kd, Ty.id, Ty.args, encL_len, f2, hs]);((with_reducible first|refine finA hC ?_|refine finD hC ?_);clear hC C))|((with_reducible first|refine qqT fun C hC=>?_|refine qqU fun C hC=>?_|intro C hC);simp only [go_sem, cells_enc, Ty.tc, Ty.kd, Ty.id, Ty.args, encL_len, f2, hs];((with_reducible first|refine finA hC ?_|refine finD hC ?_);clear hC C))|(with_reducible first|refine qqA fun K hK=>?_|refine qqB fun K hK=>?_|refine qqC fun K hK=>?_|(refine qqD ?_;refine hK _ _ ?_;try clear hK K)|(refine qqE ?_;refine hK _ _ _ ?_ ?_;(focus kernel_rfl);try clear hK K)|(refine qqF ?_;refine hK _ _ ?_;try clear hK K)|refine qqG ?_|refine qqH ?_|refine qqI ?_|refine qqJ ?_|refine qqK ?_|(refine qqL ?_;try clear hK K)|(refine qqM ?_;try clear hK K)|refine qqN ?_|refine qqO ?_|(refine qqP ?_ ?_;focus decide))|((with_reducible first|apply qqQ|apply qqR|apply qqS);focus (simp only [go_sem, cells_enc, Ty.tc, Ty.kd, Ty.id, Ty.args, encL_len, f2, hs];exact rfl))|(with_reducible first|refine gk_tt ?_|refine gk_ff ?_|refine ck_t ?_|refine ck_f ?_)|((with_reducible first|refine gk_tf ?_|refine gk_ft ?_|refine gk_u ?_|refine gk_u' ?_);first|(intro _ e;(first|rw [qqY] at e|rw [qqZ] at e);subst e)|(intro _ _ e e';(first|rw [qqY] at e|rw [qqZ] at e);subst e;subst e'))|((with_reducible refine ck_s (fun h=>?_) (fun h=>?_));all_goals ((try simp only [Bool.not_eq_true', Bool.not_eq_false'] at h);(try simp only [h, Bool.not_true, Bool.not_false]);(replace hs := And.intro h hs);clear h))|((with_reducible refine gk_s (fun h=>?_) (fun h=>?_));all_goals ((try simp only [Bool.not_eq_true', Bool.not_eq_false'] at h);(try simp only [h, Bool.not_true, Bool.not_false]);(replace hs := And.intro h hs);clear h))))
        all_goals first
          | (refine awp_loop_k _ (LeB [] (by refine ⟨?_, ?_, ?_⟩ <;> simp only [leFr, leFb, leHp, V.ren, V.renL, V.bd, V.bdL, allL, lt, Go.Ab.get, hget, List.map_cons, List.map_nil, List.length_cons, List.length_nil, List.length_append, List.getElem?_cons_zero, List.getElem?_cons_succ, List.getElem?_nil, Option.join_some, Option.join_none, List.getD_cons_zero, List.getD_cons_succ, List.getD_nil, Nat.reduceAdd, Nat.reduceLT, Nat.reduceEqDiff, Nat.zero_add, reduceIte, if_true, if_false, and_true, true_and, renL_vcells, allL_vcells, renL_pv, leBlk_some, eq_self, true_or, or_true, reduceCtorEq, false_or, c0])) (wf2_loop hss hrec hK ss [] rfl rfl); done)
          | (exfalso; clear hrec; revert hs hw; generalize (ss.length : Int) = n at hnn ⊢; intro hw hs; simp [nwf, inR] at hw hs; omega)
      | false =>
        rw [show wfT (.mk 9 id ss) = false from by simp only [wfT, hw, Bool.false_eq_true, if_false]]
        have hs : True := trivial
        clear hrec0 hrec
        (repeat' (first|((first|(with_reducible refine qqV fun C hC=>?_)|(with_reducible refine qqW fun C hC=>?_)|((with_reducible intro C hC);(with_reducible refine qqX ?_)));(first|(simp only [go_sem, cells_enc, Ty.tc, Ty.kd, Ty.id, Ty.args, encL_len, hs];(first|((with_reducible apply ACall.pure0 [] (hc));(focus (exact vwA))))));(simp only [go_sem, cells_enc, Ty.tc, Ty.kd, Ty.id, Ty.args, encL_len, hs]);((with_reducible first|refine finA hC ?_|refine finD hC ?_);clear hC C))|((with_reducible first|refine qqT fun C hC=>?_|refine qqU fun C hC=>?_|intro C hC);simp only [go_sem, cells_enc, Ty.tc, Ty.kd, Ty.id, Ty.args, encL_len, hs];((with_reducible first|refine finA hC ?_|refine finD hC ?_);clear hC C))|(with_reducible first|refine qqA fun K hK=>?_|refine qqB fun K hK=>?_|refine qqC fun K hK=>?_|(refine qqD ?_;refine hK _ _ ?_;try clear hK K)|(refine qqE ?_;refine hK _ _ _ ?_ ?_;(focus kernel_rfl);try clear hK K)|(refine qqF ?_;refine hK _ _ ?_;try clear hK K)|refine qqG ?_|refine qqH ?_|refine qqI ?_|refine qqJ ?_|refine qqK ?_|(refine qqL ?_;try clear hK K)|(refine qqM ?_;try clear hK K)|refine qqN ?_|refine qqO ?_|(refine qqP ?_ ?_;focus decide))|((with_reducible first|apply qqQ|apply qqR|apply qqS);focus (simp only [go_sem, cells_enc, Ty.tc, Ty.kd, Ty.id, Ty.args, encL_len, hs];exact rfl))|(with_reducible first|refine gk_tt ?_|refine gk_ff ?_|refine ck_t ?_|refine ck_f ?_)|((with_reducible first|refine gk_tf ?_|refine gk_ft ?_|refine gk_u ?_|refine gk_u' ?_);first|(intro _ e;(first|rw [qqY] at e|rw [qqZ] at e);subst e)|(intro _ _ e e';(first|rw [qqY] at e|rw [qqZ] at e);subst e;subst e'))|((with_reducible refine ck_s (fun h=>?_) (fun h=>?_));all_goals ((try simp only [Bool.not_eq_true', Bool.not_eq_false'] at h);(try simp only [h, Bool.not_true, Bool.not_false]);(replace hs := And.intro h hs);clear h))|((with_reducible refine gk_s (fun h=>?_) (fun h=>?_));all_goals ((try simp only [Bool.not_eq_true', Bool.not_eq_false'] at h);(try simp only [h, Bool.not_true, Bool.not_false]);(replace hs := And.intro h hs);clear h))))
        all_goals first
          | (refine retP_ret (List.range 40) rfl ?_; exact vwA)
          | (exfalso; revert hs hw; generalize (ss.length : Int) = n at hnn ⊢; intro hw hs; simp [nwf, inR] at hw hs; omega)
    · subst hk
      have hc := inR_ok (ss.length : Int) 1 1
      cases hw : nwf 10 id ss.length with
      | true =>
        have f1 : inR (ss.length : Int) 1 1 = true := by
          revert hw; generalize (ss.length : Int) = n at hnn ⊢; intro hw; simp [nwf, inR] at hw ⊢; omega
        have f2 : decide (id < 0) = false := by
          revert hw; generalize (ss.length : Int) = n at hnn ⊢; intro hw; simp [nwf] at hw ⊢; omega
        rw [f1] at hc
        rw [show wfT (.mk 10 id ss) = wfTL ss from by simp only [wfT, hw, if_true]]
        have hs : True := trivial
        clear hrec0
        (repeat' (first|((first|(with_reducible refine qqV fun C hC=>?_)|(with_reducible refine qqW fun C hC=>?_)|((with_reducible intro C hC);(with_reducible refine qqX ?_)));(first|(simp only [go_sem, cells_enc, Ty.tc, Ty.kd, Ty.id, Ty.args, encL_len, f2, hs];(first|((with_reducible apply ACall.pure0 [] (hc));(focus (exact vwA))))));(simp only [go_sem, cells_enc, Ty.tc, Ty.kd, Ty.id, Ty.args, encL_len, f2, hs]);((with_reducible first|refine finA hC ?_|refine finD hC ?_);clear hC C))|((with_reducible first|refine qqT fun C hC=>?_|refine qqU fun C hC=>?_|intro C hC);simp only [go_sem, cells_enc, Ty.tc, Ty.kd, Ty.id, Ty.args, encL_len, f2, hs];((with_reducible first|refine finA hC ?_|refine finD hC ?_);clear hC C))|(with_reducible first|refine qqA fun K hK=>?_|refine qqB fun K hK=>?_|refine qqC fun K hK=>?_|(refine qqD ?_;refine hK _ _ ?_;try clear hK K)|(refine qqE ?_;refine hK _ _ _ ?_ ?_;(focus kernel_rfl);try clear hK K)|(refine qqF ?_;refine hK _ _ ?_;try clear hK K)|refine qqG ?_|refine qqH ?_|refine qqI ?_|refine qqJ ?_|refine qqK ?_|(refine qqL ?_;try clear hK K)|(refine qqM ?_;try clear hK K)|refine qqN ?_|refine qqO ?_|(refine qqP ?_ ?_;focus decide))|((with_reducible first|apply qqQ|apply qqR|apply qqS);focus (simp only [go_sem, cells_enc, Ty.tc, Ty.kd, Ty.id, Ty.args, encL_len, f2, hs];exact rfl))|(with_reducible first|refine gk_tt ?_|refine gk_ff ?_|refine ck_t ?_|refine ck_f ?_)|((with_reducible first|refine gk_tf ?_|refine gk_ft ?_|refine gk_u ?_|refine gk_u' ?_);first|(intro _ e;(first|rw [qqY] at e|rw [qqZ] at e);subst e)|(intro _ _ e e';(first|rw [qqY] at e|rw [qqZ] at e);subst e;subst e'))|((with_reducible refine ck_s (fun h=>?_) (fun h=>?_));all_goals ((try simp only [Bool.not_eq_true', Bool.not_eq_false'] at h);(try simp only [h, Bool.not_true, Bool.not_false]);(replace hs := And.intro h hs);clear h))|((with_reducible refine gk_s (fun h=>?_) (fun h=>?_));all_goals ((try simp only [Bool.not_eq_true', Bool.not_eq_false'] at h);(try simp only [h, Bool.not_true, Bool.not_false]);(replace hs := And.intro h hs);clear h))))
        all_goals first
          | (refine awp_loop_k _ (LeB [] (by refine ⟨?_, ?_, ?_⟩ <;> simp only [leFr, leFb, leHp, V.ren, V.renL, V.bd, V.bdL, allL, lt, Go.Ab.get, hget, List.map_cons, List.map_nil, List.length_cons, List.length_nil, List.length_append, List.getElem?_cons_zero, List.getElem?_cons_succ, List.getElem?_nil, Option.join_some, Option.join_none, List.getD_cons_zero, List.getD_cons_succ, List.getD_nil, Nat.reduceAdd, Nat.reduceLT, Nat.reduceEqDiff, Nat.zero_add, reduceIte, if_true, if_false, and_true, true_and, renL_vcells, allL_vcells, renL_pv, leBlk_some, eq_self, true_or, or_true, reduceCtorEq, false_or, c0])) (wf2_loop hss hrec hK ss [] rfl rfl); done)
          | (exfalso; clear hrec; revert hs hw; generalize (ss.length : Int) = n at hnn ⊢; intro hw hs; simp [nwf, inR] at hw hs; omega)
      | false =>
        rw [show wfT (.mk 10 id ss) = false from by simp only [wfT, hw, Bool.false_eq_true, if_false]]
        have hs : True := trivial
        clear hrec0 hrec
        (repeat' (first|((first|(with_reducible refine qqV fun C hC=>?_)|(with_reducible refine qqW fun C hC=>?_)|((with_reducible intro C hC);(with_reducible refine qqX ?_)));(first|(simp only [go_sem, cells_enc, Ty.tc, Ty.kd, Ty.id, Ty.args, encL_len, hs];(first|((with_reducible apply ACall.pure0 [] (hc));(focus (exact vwA))))));(simp only [go_sem, cells_enc, Ty.tc, Ty.kd, Ty.id, Ty.args, encL_len, hs]);((with_reducible first|refine finA hC ?_|refine finD hC ?_);clear hC C))|((with_reducible first|refine qqT fun C hC=>?_|refine qqU fun C hC=>?_|intro C hC);simp only [go_sem, cells_enc, Ty.tc, Ty.kd, Ty.id, Ty.args, encL_len, hs];((with_reducible first|refine finA hC ?_|refine finD hC ?_);clear hC C))|(with_reducible first|refine qqA fun K hK=>?_|refine qqB fun K hK=>?_|refine qqC fun K hK=>?_|(refine qqD ?_;refine hK _ _ ?_;try clear hK K)|(refine qqE ?_;refine hK _ _ _ ?_ ?_;(focus kernel_rfl);try clear hK K)|(refine qqF ?_;refine hK _ _ ?_;try clear hK K)|refine qqG ?_|refine qqH ?_|refine qqI ?_|refine qqJ ?_|refine qqK ?_|(refine qqL ?_;try clear hK K)|(refine qqM ?_;try clear hK K)|refine qqN ?_|refine qqO ?_|(refine qqP ?_ ?_;focus decide))|((with_reducible first|apply qqQ|apply qqR|apply qqS);focus (simp only [go_sem, cells_enc, Ty.tc, Ty.kd, Ty.id, Ty.args, encL_len, hs];exact rfl))|(with_reducible first|refine gk_tt ?_|refine gk_ff ?_|refine ck_t ?_|refine ck_f ?_)|((with_reducible first|refine gk_tf ?_|refine gk_ft ?_|refine gk_u ?_|refine gk_u' ?_);first|(intro _ e;(first|rw [qqY] at e|rw [qqZ] at e);subst e)|(intro _ _ e e';(first|rw [qqY] at e|rw [qqZ] at e);subst e;subst e'))|((with_reducible refine ck_s (fun h=>?_) (fun h=>?_));all_goals ((try simp only [Bool.not_eq_true', Bool.not_eq_false'] at h);(try simp only [h, Bool.not_true, Bool.not_false]);(replace hs := And.intro h hs);clear h))|((with_reducible refine gk_s (fun h=>?_) (fun h=>?_));all_goals ((try simp only [Bool.not_eq_true', Bool.not_eq_false'] at h);(try simp only [h, Bool.not_true, Bool.not_false]);(replace hs := And.intro h hs);clear h))))
        all_goals first
          | (refine retP_ret (List.range 40) rfl ?_; exact vwA)
          | (exfalso; revert hs hw; generalize (ss.length : Int) = n at hnn ⊢; intro hw hs; simp [nwf, inR] at hw hs; omega)
    · have hw : nwf k id ss.length = false := by
        obtain ⟨a0, a3, a4, a5, a6, a1, a2, a7, a8, a9, a10⟩ := hk
        simp only [nwf, a0, a3, a4, a5, a6, a1, a2, a7, a8, a9, a10, Bool.false_eq_true, if_false]
      rw [show wfT (.mk k id ss) = false from by simp only [wfT, hw, Bool.false_eq_true, if_false]]
      (repeat' (first|((with_reducible first|refine qqT fun C hC=>?_|refine qqU fun C hC=>?_|intro C hC);simp only [go_sem, cells_enc, Ty.tc, Ty.kd, Ty.id, Ty.args, encL_len, hk];((with_reducible first|refine finA hC ?_|refine finD hC ?_);clear hC C))|(with_reducible first|refine qqA fun K hK=>?_|refine qqB fun K hK=>?_|refine qqC fun K hK=>?_|(refine qqD ?_;refine hK _ _ ?_;try clear hK K)|(refine qqE ?_;refine hK _ _ _ ?_ ?_;(focus kernel_rfl);try clear hK K)|(refine qqF ?_;refine hK _ _ ?_;try clear hK K)|refine qqG ?_|refine qqH ?_|refine qqI ?_|refine qqJ ?_|refine qqK ?_|(refine qqL ?_;try clear hK K)|(refine qqM ?_;try clear hK K)|refine qqN ?_|refine qqO ?_|(refine qqP ?_ ?_;focus decide))|((with_reducible first|apply qqQ|apply qqR|apply qqS);focus (simp only [go_sem, cells_enc, Ty.tc, Ty.kd, Ty.id, Ty.args, encL_len, hk];exact rfl))|(with_reducible first|refine gk_tt ?_|refine gk_ff ?_|refine ck_t ?_|refine ck_f ?_)|((with_reducible first|refine gk_tf ?_|refine gk_ft ?_|refine gk_u ?_|refine gk_u' ?_);first|(intro _ e;(first|rw [qqY] at e|rw [qqZ] at e);subst e)|(intro _ _ e e';(first|rw [qqY] at e|rw [qqZ] at e);subst e;subst e'))))
      (refine retP_ret (List.range 40) rfl ?_; exact vwA)
termination_by t => SizeOf.sizeOf t
decreasing_by
  have := List.sizeOf_lt_of_mem ht
  simp only [Ty.mk.sizeOf_spec]; omega
set_option maxHeartbeats 1000000 in
theorem err_ok (t : Ty) (hn : nds t ≤ 900000000000000) : PCall Try.prog 10 [t.enc] (ii (errT t)) := by
  have h1 := size_ok t hn
  have h2 := wf2_ok t
  refine PCall.intro (ps := [ii (errT t)]) fn10 (by simp) ?_
  unfold ac10
  simp only [argFr]
  have hs : True := trivial
  (repeat' (first|((first|(with_reducible refine qqV fun C hC=>?_)|(with_reducible refine qqW fun C hC=>?_)|((with_reducible intro C hC);(with_reducible refine qqX ?_)));(first|(simp only [go_sem, cells_enc, Ty.tc, hs];(first|((with_reducible apply ACall.pure0 [] (h1));(focus (exact vwA)))|((with_reducible apply ACall.pure0 [] (h2));(focus (exact vwA))))));(simp only [go_sem, cells_enc, Ty.tc, hs]);((with_reducible first|refine finA hC ?_|refine finD hC ?_);clear hC C))|((with_reducible first|refine qqT fun C hC=>?_|refine qqU fun C hC=>?_|intro C hC);simp only [go_sem, cells_enc, Ty.tc, hs];((with_reducible first|refine finA hC ?_|refine finD hC ?_);clear hC C))|(with_reducible first|refine qqA fun K hK=>?_|refine qqB fun K hK=>?_|refine qqC fun K hK=>?_|(refine qqD ?_;refine hK _ _ ?_;try clear hK K)|(refine qqE ?_;refine hK _ _ _ ?_ ?_;(focus kernel_rfl);try clear hK K)|(refine qqF ?_;refine hK _ _ ?_;try clear hK K)|refine qqG ?_|refine qqH ?_|refine qqI ?_|refine qqJ ?_|refine qqK ?_|(refine qqL ?_;try clear hK K)|(refine qqM ?_;try clear hK K)|refine qqN ?_|refine qqO ?_|(refine qqP ?_ ?_;focus decide))|((with_reducible first|apply qqQ|apply qqR|apply qqS);focus (simp only [go_sem, cells_enc, Ty.tc, hs];exact rfl))|(with_reducible first|refine gk_tt ?_|refine gk_ff ?_|refine ck_t ?_|refine ck_f ?_)|((with_reducible first|refine gk_tf ?_|refine gk_ft ?_|refine gk_u ?_|refine gk_u' ?_);first|(intro _ e;(first|rw [qqY] at e|rw [qqZ] at e);subst e)|(intro _ _ e e';(first|rw [qqY] at e|rw [qqZ] at e);subst e;subst e'))|((with_reducible refine ck_s (fun h=>?_) (fun h=>?_));all_goals ((try simp only [Bool.not_eq_true', Bool.not_eq_false'] at h);(try simp only [h, Bool.not_true, Bool.not_false]);(replace hs := And.intro h hs);clear h))|((with_reducible refine gk_s (fun h=>?_) (fun h=>?_));all_goals ((try simp only [Bool.not_eq_true', Bool.not_eq_false'] at h);(try simp only [h, Bool.not_true, Bool.not_false]);(replace hs := And.intro h hs);clear h))))
  all_goals (refine retP_ret (List.range 40) rfl ?_; (try simp only [errT, hs, if_true, if_false, Bool.false_eq_true, Bool.not_true, Bool.not_false, reduceIte]); exact vwA)
end Go.Proofs.Ytiediojibljpiaa
/- The reference's SubstituteVars. -/
set_option maxRecDepth 10000
set_option linter.unusedSimpArgs false
set_option linter.unusedVariables false
namespace Go.Proofs.Ytiediojibljpiaa
open Go Go.Ab
set_option maxHeartbeats 1000000 in
theorem hasK_ok (xs : List Int) (v : Int) : PCall Try.prog 43 [.list 1 (encI xs), ii v] (bb (xs.any fun x => x == v)) := by
  refine PCall.intro' (ps := [bb (xs.any fun x => x == v)]) fn43 (by simp) fun hok => ?_
  have hss : xs.length ≤ 1099511627776 := by
    simp only [PV.okL, PV.ok, encI_len, big] at hok; exact hok.1.1
  clear hok
  unfold ac43
  simp only [argFr]
  (repeat' (first|((with_reducible first|refine qqT fun C hC=>?_|refine qqU fun C hC=>?_|intro C hC);simp only [go_sem, encI_len];((with_reducible first|refine finA hC ?_|refine finD hC ?_);clear hC C))|(with_reducible first|refine qqA fun K hK=>?_|refine qqB fun K hK=>?_|refine qqC fun K hK=>?_|(refine qqD ?_;refine hK _ _ ?_;try clear hK K)|(refine qqE ?_;refine hK _ _ _ ?_ ?_;(focus kernel_rfl);try clear hK K)|(refine qqF ?_;refine hK _ _ ?_;try clear hK K)|refine qqG ?_|refine qqH ?_|refine qqI ?_|refine qqJ ?_|refine qqK ?_|(refine qqL ?_;try clear hK K)|(refine qqM ?_;try clear hK K)|refine qqN ?_|refine qqO ?_|(refine qqP ?_ ?_;focus decide))|((with_reducible first|apply qqQ|apply qqR|apply qqS);focus (simp only [go_sem, encI_len];exact rfl))|(with_reducible first|refine gk_tt ?_|refine gk_ff ?_|refine ck_t ?_|refine ck_f ?_)|((with_reducible first|refine gk_tf ?_|refine gk_ft ?_|refine gk_u ?_|refine gk_u' ?_);first|(intro _ e;(first|rw [qqY] at e|rw [qqZ] at e);subst e)|(intro _ _ e e';(first|rw [qqY] at e|rw [qqZ] at e);subst e;subst e'))))
  have rows : ∀ (rest pre : List Int), pre ++ rest = xs → (xs.any fun x => x == v) = (rest.any fun x => x == v) → loopN (awp Try.prog ac43_l0) (catch_ 0 (thn K (retP [RV.tmp 4] [bb (xs.any fun x => x == v)]))) (rest.length + 1)
     [(9, .pv (ii pre.length)), (8, .pv (ii xs.length)), (7, .pv (.list 1 (encI xs))), (1, .pv (ii v))] [] := by
    intro rest
    induction rest with
    | nil =>
      intro pre hpre hi
      have hpre : pre = xs := by simpa using hpre
      subst hpre
      refine loopN_k fun K1 hK1 => ?_
      unfold ac43_l0
      (repeat' (first|((with_reducible first|refine qqT fun C hC=>?_|refine qqU fun C hC=>?_|intro C hC);simp only [go_sem, lt_end];((with_reducible first|refine finA hC ?_|refine finD hC ?_);clear hC C))|(with_reducible first|refine qqA fun K hK=>?_|refine qqB fun K hK=>?_|refine qqC fun K hK=>?_|(refine qqD ?_;refine hK _ _ ?_;try clear hK K)|(refine qqE ?_;refine hK _ _ _ ?_ ?_;(focus kernel_rfl);try clear hK K)|(refine qqF ?_;refine hK _ _ ?_;try clear hK K)|refine qqG ?_|refine qqH ?_|refine qqI ?_|refine qqJ ?_|refine qqK ?_|(refine qqL ?_;try clear hK K)|(refine qqM ?_;try clear hK K)|refine qqN ?_|refine qqO ?_|(refine qqP ?_ ?_;focus decide))|((with_reducible first|apply qqQ|apply qqR|apply qqS);focus (simp only [go_sem, lt_end];exact rfl))|(with_reducible first|refine gk_tt ?_|refine gk_ff ?_|refine ck_t ?_|refine ck_f ?_)|((with_reducible first|refine gk_tf ?_|refine gk_ft ?_|refine gk_u ?_|refine gk_u' ?_);first|(intro _ e;(first|rw [qqY] at e|rw [qqZ] at e);subst e)|(intro _ _ e e';(first|rw [qqY] at e|rw [qqZ] at e);subst e;subst e'))))
      rw [hi]
      (refine retP_ret (List.range 40) rfl ?_; (try simp only [List.any_nil, if_true, if_false, Bool.false_eq_true, Bool.not_true, Bool.not_false]); exact vwA)
    | cons t rest ih =>
      intro pre hpre hi
      have hlt : decide ((pre.length : Int) < (xs.length : Int)) = true := by subst hpre; exact lt_app _ _ _
      have hat : (encI xs)[pre.length]? = some (ii t) := by subst hpre; exact encI_at _ _ _
      have hb : pre.length + 1 ≤ big := by have := congrArg List.length hpre; simp at this; unfold big; omega
      refine loopN_k fun K1 hK1 => ?_
      unfold ac43_l0
      cases hpt : (t == v) with
      | true =>
        (repeat' (first|((with_reducible first|refine qqT fun C hC=>?_|refine qqU fun C hC=>?_|intro C hC);simp only [go_sem, hlt, hat, hpt];((with_reducible first|refine finA hC ?_|refine finD hC ?_);clear hC C))|(with_reducible first|refine qqA fun K hK=>?_|refine qqB fun K hK=>?_|refine qqC fun K hK=>?_|(refine qqD ?_;refine hK _ _ ?_;try clear hK K)|(refine qqE ?_;refine hK _ _ _ ?_ ?_;(focus kernel_rfl);try clear hK K)|(refine qqF ?_;refine hK _ _ ?_;try clear hK K)|refine qqG ?_|refine qqH ?_|refine qqI ?_|refine qqJ ?_|refine qqK ?_|(refine qqL ?_;try clear hK K)|(refine qqM ?_;try clear hK K)|refine qqN ?_|refine qqO ?_|(refine qqP ?_ ?_;focus decide))|((with_reducible first|apply qqQ|apply qqR|apply qqS);focus (simp only [go_sem, hlt, hat, hpt];exact rfl))|(with_reducible first|refine gk_tt ?_|refine gk_ff ?_|refine ck_t ?_|refine ck_f ?_)|((with_reducible first|refine gk_tf ?_|refine gk_ft ?_|refine gk_u ?_|refine gk_u' ?_);first|(intro _ e;(first|rw [qqY] at e|rw [qqZ] at e);subst e)|(intro _ _ e e';(first|rw [qqY] at e|rw [qqZ] at e);subst e;subst e'))))
        simp only [List.any_cons, hpt, Bool.true_or] at hi
        rw [hi]
        (refine retP_ret (List.range 40) rfl ?_; exact vwA)
      | false =>
        (repeat' (first|((with_reducible first|refine qqT fun C hC=>?_|refine qqU fun C hC=>?_|intro C hC);simp only [go_sem, hlt, hat, hpt];((with_reducible first|refine finA hC ?_|refine finD hC ?_);clear hC C))|(with_reducible first|refine qqA fun K hK=>?_|refine qqB fun K hK=>?_|refine qqC fun K hK=>?_|(refine qqD ?_;refine hK _ _ ?_;try clear hK K)|(refine qqE ?_;refine hK _ _ _ ?_ ?_;(focus kernel_rfl);try clear hK K)|(refine qqF ?_;refine hK _ _ ?_;try clear hK K)|refine qqG ?_|refine qqH ?_|refine qqI ?_|refine qqJ ?_|refine qqK ?_|(refine qqL ?_;try clear hK K)|(refine qqM ?_;try clear hK K)|refine qqN ?_|refine qqO ?_|(refine qqP ?_ ?_;focus decide))|((with_reducible first|apply qqQ|apply qqR|apply qqS);focus (simp only [go_sem, hlt, hat, hpt];exact rfl))|(with_reducible first|refine gk_tt ?_|refine gk_ff ?_|refine ck_t ?_|refine ck_f ?_)|((with_reducible first|refine gk_tf ?_|refine gk_ft ?_|refine gk_u ?_|refine gk_u' ?_);first|(intro _ e;(first|rw [qqY] at e|rw [qqZ] at e);subst e)|(intro _ _ e e';(first|rw [qqY] at e|rw [qqZ] at e);subst e;subst e'))))
        have hw := wrapS (n := pre.length) (by unfold big at hb; omega)
        refine qqF ?_
        refine hK1 _ _ _ _ _ (LeB [] (by refine ⟨?_, ?_, ?_⟩ <;> simp only [leFr, leFb, leHp, V.ren, V.renL, V.bd, V.bdL, allL, lt, Go.Ab.get, hget, List.map_cons, List.map_nil, List.length_cons, List.length_nil, List.length_append, List.getElem?_cons_zero, List.getElem?_cons_succ, List.getElem?_nil, Option.join_some, Option.join_none, List.getD_cons_zero, List.getD_cons_succ, List.getD_nil, Nat.reduceAdd, Nat.reduceLT, Nat.reduceEqDiff, Nat.zero_add, reduceIte, if_true, if_false, and_true, true_and, renL_vcells, allL_vcells, renL_pv, leBlk_some, eq_self, true_or, or_true, reduceCtorEq, false_or, hw, List.length_append])) (ih (pre ++ [t]) (by simp [hpre]) (by simpa only [List.any_cons, hpt, Bool.false_or] using hi))
  refine awp_loop_k _ (LeB [] (by refine ⟨?_, ?_, ?_⟩ <;> simp only [leFr, leFb, leHp, V.ren, V.renL, V.bd, V.bdL, allL, lt, Go.Ab.get, hget, List.map_cons, List.map_nil, List.length_cons, List.length_nil, List.length_append, List.getElem?_cons_zero, List.getElem?_cons_succ, List.getElem?_nil, Option.join_some, Option.join_none, List.getD_cons_zero, List.getD_cons_succ, List.getD_nil, Nat.reduceAdd, Nat.reduceLT, Nat.reduceEqDiff, Nat.zero_add, reduceIte, if_true, if_false, and_true, true_and, renL_vcells, allL_vcells, renL_pv, leBlk_some, eq_self, true_or, or_true, reduceCtorEq, false_or, c0])) (rows xs [] rfl rfl)
def tailV : AC := AC.seq (.reg [⟨some 41, .mov (.tmp 7), none⟩, ⟨some 42, .faddr 2 (.tmp 2), none⟩, ⟨none, .store 1 (.tmp 42) (.tmp 41), none⟩])
  (.seq (.reg [⟨some 43, .load true 3 (.tmp 2), none⟩, ⟨none, .store 3 (.tmp 4) (.tmp 43), none⟩]) (.ret))
theorem row_tc {h : HF} {B : List Nat} {b : Nat} {fl ro : Bool} {ty : Nat} {xs : List Ty} {tg : Option (Nat × Nat × Nat)} {n : Nat} (hb : b ∈ B) (hk : h b = some ⟨ro, ty, 3, xs.map Ty.tc, tg⟩) (hn : n = xs.length) : Vw h B (.row b n fl) (.list 3 (encL xs)) :=
  row_view hb hk (by simp [hn]) (VwE_tc xs)
set_option maxHeartbeats 4000000 in
theorem sv_rows {s : List Bd} {ss : List Ty} (hss : ss.length ≤ 1099511627776) (hrec : ∀ t ∈ ss, PCall Try.prog 41 [t.enc, .list 4 (encB s)] (subT s t).enc) (k id : Int) {K : Fr → Hp → Prop} {R : Ty} (hR : R = .mk k id (mapTL (subG s) ss))
    (hKv : ∀ fr H, awp Try.prog tailV (retP [RV.cell 4 3 true] [R.enc]) fr H → K fr H) :
    ∀ (rest pre : List Ty), pre ++ rest = ss → loopN (awp Try.prog ac41_l1) (catch_ 2 (thn K (retP [RV.cell 4 3 true] [R.enc]))) (rest.length + 1)
      [(30, .pv (ii pre.length)), (29, .pv (ii ss.length)), (28, .pv (.list 3 (encL ss))), (7, .row 2 pre.length false), (4, .ptr 1 0 0), (2, .ptr 0 0 0), (1, .pv (.list 4 (encB s)))]
      [some ⟨false, 29, 3, [[.pv (ii k), .pv (ii id), .pv (.list 3 (encL ss))]], none⟩, some ⟨false, 29, 3, [[.pv (ii 0), .pv (ii 0), .pv (.lit (.slice none 0 0))]], none⟩, some ⟨false, 29, 3, (mapTL (subG s) pre).map Ty.tc, none⟩] := by
  intro rest
  induction rest with
  | nil =>
    intro pre hpre
    have hpre : pre = ss := by simpa using hpre
    subst hpre
    refine loopN_k fun K1 hK1 => ?_
    unfold ac41_l1
    (repeat' (first|((with_reducible first|refine qqT fun C hC=>?_|refine qqU fun C hC=>?_|intro C hC);simp only [go_sem, lt_end];((with_reducible first|refine finA hC ?_|refine finD hC ?_);clear hC C))|(with_reducible first|refine qqA fun K hK=>?_|refine qqB fun K hK=>?_|refine qqC fun K hK=>?_|(refine qqD ?_;refine hK _ _ ?_;try clear hK K)|(refine qqE ?_;refine hK _ _ _ ?_ ?_;(focus kernel_rfl);try clear hK K)|(refine qqF ?_;refine hK _ _ ?_;try clear hK K)|refine qqG ?_|refine qqH ?_|refine qqI ?_|refine qqJ ?_|refine qqK ?_|(refine qqL ?_;try clear hK K)|(refine qqM ?_;try clear hK K)|refine qqN ?_|refine qqO ?_|(refine qqP ?_ ?_;focus decide))|((with_reducible first|apply qqQ|apply qqR|apply qqS);focus (simp only [go_sem, lt_end];exact rfl))|(with_reducible first|refine gk_tt ?_|refine gk_ff ?_|refine ck_t ?_|refine ck_f ?_)|((with_reducible first|refine gk_tf ?_|refine gk_ft ?_|refine gk_u ?_|refine gk_u' ?_);first|(intro _ e;(first|rw [qqY] at e|rw [qqZ] at e);subst e)|(intro _ _ e e';(first|rw [qqY] at e|rw [qqZ] at e);subst e;subst e'))))
    refine hKv _ _ ?_
    unfold tailV
    (repeat' (first|((with_reducible first|refine qqT fun C hC=>?_|refine qqU fun C hC=>?_|intro C hC);simp only [go_sem];((with_reducible first|refine finA hC ?_|refine finD hC ?_);clear hC C))|(with_reducible first|refine qqA fun K hK=>?_|refine qqB fun K hK=>?_|refine qqC fun K hK=>?_|(refine qqD ?_;refine hK _ _ ?_;try clear hK K)|(refine qqE ?_;refine hK _ _ _ ?_ ?_;(focus kernel_rfl);try clear hK K)|(refine qqF ?_;refine hK _ _ ?_;try clear hK K)|refine qqG ?_|refine qqH ?_|refine qqI ?_|refine qqJ ?_|refine qqK ?_|(refine qqL ?_;try clear hK K)|(refine qqM ?_;try clear hK K)|refine qqN ?_|refine qqO ?_|(refine qqP ?_ ?_;focus decide))|((with_reducible first|apply qqQ|apply qqR|apply qqS);focus (simp only [go_sem];exact rfl))|(with_reducible first|refine gk_tt ?_|refine gk_ff ?_|refine ck_t ?_|refine ck_f ?_)|((with_reducible first|refine gk_tf ?_|refine gk_ft ?_|refine gk_u ?_|refine gk_u' ?_);first|(intro _ e;(first|rw [qqY] at e|rw [qqZ] at e);subst e)|(intro _ _ e e';(first|rw [qqY] at e|rw [qqZ] at e);subst e;subst e'))))
    refine retP_ret [2] rfl (.cons _ _ _ _ ?_ .nil)
    rw [hR, enc_eq]
    refine .agg _ _ (.cons _ _ _ _ (.pv _) (.cons _ _ _ _ (.pv _) (.cons _ _ _ _ ?_ .nil)))
    exact row_tc (xs := mapTL (subG s) pre) (by decide) rfl (mapTL_len _ _).symm
  | cons t rest ih =>
    intro pre hpre
    have hlt : decide ((pre.length : Int) < (ss.length : Int)) = true := by subst hpre; exact lt_app _ _ _
    have hat : (encL ss)[pre.length]? = some t.enc := by subst hpre; exact encL_at _ _ _
    have hb : pre.length + 1 ≤ big := by have := congrArg List.length hpre; simp at this; unfold big; omega
    have hc := hrec t (by subst hpre; simp)
    refine loopN_k fun K1 hK1 => ?_
    unfold ac41_l1
    (repeat' (first|((first|(with_reducible refine qqV fun C hC=>?_)|(with_reducible refine qqW fun C hC=>?_)|((with_reducible intro C hC);(with_reducible refine qqX ?_)));(first|(simp only [go_sem, hlt, hat, cells_enc, pcells_enc, tc_len, Ty.tc, List.length_map, mapTL_len, hb];(first|((with_reducible apply ACall.pure0 [] (hc));(focus (exact vwA))))));(simp only [go_sem, hlt, hat, cells_enc, pcells_enc, tc_len, Ty.tc, List.length_map, mapTL_len, hb]);((with_reducible first|refine finA hC ?_|refine finD hC ?_);clear hC C))|((with_reducible first|refine qqT fun C hC=>?_|refine qqU fun C hC=>?_|intro C hC);simp only [go_sem, hlt, hat, cells_enc, pcells_enc, tc_len, Ty.tc, List.length_map, mapTL_len, hb];((with_reducible first|refine finA hC ?_|refine finD hC ?_);clear hC C))|(with_reducible first|refine qqA fun K hK=>?_|refine qqB fun K hK=>?_|refine qqC fun K hK=>?_|(refine qqD ?_;refine hK _ _ ?_;try clear hK K)|(refine qqE ?_;refine hK _ _ _ ?_ ?_;(focus kernel_rfl);try clear hK K)|(refine qqF ?_;refine hK _ _ ?_;try clear hK K)|refine qqG ?_|refine qqH ?_|refine qqI ?_|refine qqJ ?_|refine qqK ?_|(refine qqL ?_;try clear hK K)|(refine qqM ?_;try clear hK K)|refine qqN ?_|refine qqO ?_|(refine qqP ?_ ?_;focus decide))|((with_reducible first|apply qqQ|apply qqR|apply qqS);focus (simp only [go_sem, hlt, hat, cells_enc, pcells_enc, tc_len, Ty.tc, List.length_map, mapTL_len, hb];exact rfl))|(with_reducible first|refine gk_tt ?_|refine gk_ff ?_|refine ck_t ?_|refine ck_f ?_)|((with_reducible first|refine gk_tf ?_|refine gk_ft ?_|refine gk_u ?_|refine gk_u' ?_);first|(intro _ e;(first|rw [qqY] at e|rw [qqZ] at e);subst e)|(intro _ _ e e';(first|rw [qqY] at e|rw [qqZ] at e);subst e;subst e'))))
    have hw := wrapS (n := pre.length) (by unfold big at hb; omega)
    refine qqF ?_
    refine hK1 _ _ _ _ _ (LeB [0, 1, 5] (by refine ⟨?_, ?_, ?_⟩ <;> simp only [leFr, leFb, leHp, V.ren, V.renL, V.bd, V.bdL, allL, lt, Go.Ab.get, hget, List.map_cons, List.map_nil, List.length_cons, List.length_nil, List.length_append, List.getElem?_cons_zero, List.getElem?_cons_succ, List.getElem?_nil, Option.join_some, Option.join_none, List.getD_cons_zero, List.getD_cons_succ, List.getD_nil, Nat.reduceAdd, Nat.reduceLT, Nat.reduceEqDiff, Nat.zero_add, reduceIte, if_true, if_false, and_true, true_and, renL_vcells, allL_vcells, renL_pv, leBlk_some, eq_self, true_or, or_true, reduceCtorEq, false_or, hw, List.length_append, mapTL_app, mapTL, List.map_append, renL_tc, renL_tc1, allL_tc, allL_app, bdL_tc, allL, Ty.tc, subT])) (ih (pre ++ [t]) (by simp [hpre]))
end Go.Proofs.Ytiediojibljpiaa
/- The reference's SubstituteVars: the contract. -/
set_option maxRecDepth 10000
set_option linter.unusedSimpArgs false
set_option linter.unusedVariables false
namespace Go.Proofs.Ytiediojibljpiaa
open Go Go.Ab
set_option maxHeartbeats 4000000 in
theorem sv_first {s : List Bd} {ss : List Ty} (hss : ss.length ≤ 1099511627776) (hrec : ∀ t ∈ ss, PCall Try.prog 41 [t.enc, .list 4 (encB s)] (subT s t).enc) (k id : Int) {K : Fr → Hp → Prop} {R : Ty} (hR : R = .mk k id (mapTL (subG s) ss))
    (hKv : ∀ fr H, awp Try.prog tailV (retP [RV.cell 4 3 true] [R.enc]) fr H → K fr H) :
    loopN (awp Try.prog ac41_l1) (catch_ 2 (thn K (retP [RV.cell 4 3 true] [R.enc]))) (ss.length + 1)
      [(30, .pv (ii 0)), (29, .pv (ii ss.length)), (28, .pv (.list 3 (encL ss))), (7, .pv (.lit (.slice none 0 0))), (4, .ptr 1 0 0), (2, .ptr 0 0 0), (1, .pv (.list 4 (encB s)))]
      [some ⟨false, 29, 3, [[.pv (ii k), .pv (ii id), .pv (.list 3 (encL ss))]], none⟩, some ⟨false, 29, 3, [[.pv (ii 0), .pv (ii 0), .pv (.lit (.slice none 0 0))]], none⟩] := by
  have rows := sv_rows hss hrec k id hR hKv
  refine loopN_k fun K1 hK1 => ?_
  unfold ac41_l1
  cases hs : ss with
  | nil =>
    subst hs
    (repeat' (first|((with_reducible first|refine qqT fun C hC=>?_|refine qqU fun C hC=>?_|intro C hC);simp only [go_sem, lt_zero];((with_reducible first|refine finA hC ?_|refine finD hC ?_);clear hC C))|(with_reducible first|refine qqA fun K hK=>?_|refine qqB fun K hK=>?_|refine qqC fun K hK=>?_|(refine qqD ?_;refine hK _ _ ?_;try clear hK K)|(refine qqE ?_;refine hK _ _ _ ?_ ?_;(focus kernel_rfl);try clear hK K)|(refine qqF ?_;refine hK _ _ ?_;try clear hK K)|refine qqG ?_|refine qqH ?_|refine qqI ?_|refine qqJ ?_|refine qqK ?_|(refine qqL ?_;try clear hK K)|(refine qqM ?_;try clear hK K)|refine qqN ?_|refine qqO ?_|(refine qqP ?_ ?_;focus decide))|((with_reducible first|apply qqQ|apply qqR|apply qqS);focus (simp only [go_sem, lt_zero];exact rfl))|(with_reducible first|refine gk_tt ?_|refine gk_ff ?_|refine ck_t ?_|refine ck_f ?_)|((with_reducible first|refine gk_tf ?_|refine gk_ft ?_|refine gk_u ?_|refine gk_u' ?_);first|(intro _ e;(first|rw [qqY] at e|rw [qqZ] at e);subst e)|(intro _ _ e e';(first|rw [qqY] at e|rw [qqZ] at e);subst e;subst e'))))
    refine hKv _ _ ?_
    unfold tailV
    (repeat' (first|((with_reducible first|refine qqT fun C hC=>?_|refine qqU fun C hC=>?_|intro C hC);simp only [go_sem];((with_reducible first|refine finA hC ?_|refine finD hC ?_);clear hC C))|(with_reducible first|refine qqA fun K hK=>?_|refine qqB fun K hK=>?_|refine qqC fun K hK=>?_|(refine qqD ?_;refine hK _ _ ?_;try clear hK K)|(refine qqE ?_;refine hK _ _ _ ?_ ?_;(focus kernel_rfl);try clear hK K)|(refine qqF ?_;refine hK _ _ ?_;try clear hK K)|refine qqG ?_|refine qqH ?_|refine qqI ?_|refine qqJ ?_|refine qqK ?_|(refine qqL ?_;try clear hK K)|(refine qqM ?_;try clear hK K)|refine qqN ?_|refine qqO ?_|(refine qqP ?_ ?_;focus decide))|((with_reducible first|apply qqQ|apply qqR|apply qqS);focus (simp only [go_sem];exact rfl))|(with_reducible first|refine gk_tt ?_|refine gk_ff ?_|refine ck_t ?_|refine ck_f ?_)|((with_reducible first|refine gk_tf ?_|refine gk_ft ?_|refine gk_u ?_|refine gk_u' ?_);first|(intro _ e;(first|rw [qqY] at e|rw [qqZ] at e);subst e)|(intro _ _ e e';(first|rw [qqY] at e|rw [qqZ] at e);subst e;subst e'))))
    refine retP_ret [] rfl (.cons _ _ _ _ ?_ .nil)
    rw [hR, enc_eq]
    exact .agg _ _ (.cons _ _ _ _ (.pv _) (.cons _ _ _ _ (.pv _) (.cons _ _ _ _ Vw_nil .nil)))
  | cons t rest =>
    subst hs
    have lt0 : decide ((0 : Int) < ((t :: rest).length : Int)) = true := by simp
    have hc := hrec t (by simp)
    (repeat' (first|((first|(with_reducible refine qqV fun C hC=>?_)|(with_reducible refine qqW fun C hC=>?_)|((with_reducible intro C hC);(with_reducible refine qqX ?_)));(first|(simp only [go_sem, lt0, encL, cells_enc, pcells_enc, tc_len, Ty.tc, List.length_map, mapTL_len];(first|((with_reducible apply ACall.pure0 [] (hc));(focus (exact vwA))))));(simp only [go_sem, lt0, encL, cells_enc, pcells_enc, tc_len, Ty.tc, List.length_map, mapTL_len]);((with_reducible first|refine finA hC ?_|refine finD hC ?_);clear hC C))|((with_reducible first|refine qqT fun C hC=>?_|refine qqU fun C hC=>?_|intro C hC);simp only [go_sem, lt0, encL, cells_enc, pcells_enc, tc_len, Ty.tc, List.length_map, mapTL_len];((with_reducible first|refine finA hC ?_|refine finD hC ?_);clear hC C))|(with_reducible first|refine qqA fun K hK=>?_|refine qqB fun K hK=>?_|refine qqC fun K hK=>?_|(refine qqD ?_;refine hK _ _ ?_;try clear hK K)|(refine qqE ?_;refine hK _ _ _ ?_ ?_;(focus kernel_rfl);try clear hK K)|(refine qqF ?_;refine hK _ _ ?_;try clear hK K)|refine qqG ?_|refine qqH ?_|refine qqI ?_|refine qqJ ?_|refine qqK ?_|(refine qqL ?_;try clear hK K)|(refine qqM ?_;try clear hK K)|refine qqN ?_|refine qqO ?_|(refine qqP ?_ ?_;focus decide))|((with_reducible first|apply qqQ|apply qqR|apply qqS);focus (simp only [go_sem, lt0, encL, cells_enc, pcells_enc, tc_len, Ty.tc, List.length_map, mapTL_len];exact rfl))|(with_reducible first|refine gk_tt ?_|refine gk_ff ?_|refine ck_t ?_|refine ck_f ?_)|((with_reducible first|refine gk_tf ?_|refine gk_ft ?_|refine gk_u ?_|refine gk_u' ?_);first|(intro _ e;(first|rw [qqY] at e|rw [qqZ] at e);subst e)|(intro _ _ e e';(first|rw [qqY] at e|rw [qqZ] at e);subst e;subst e'))))
    refine qqF ?_
    refine hK1 _ _ _ _ _ (LeB [0, 1, 4] (by refine ⟨?_, ?_, ?_⟩ <;> simp only [leFr, leFb, leHp, V.ren, V.renL, V.bd, V.bdL, allL, lt, Go.Ab.get, hget, List.map_cons, List.map_nil, List.length_cons, List.length_nil, List.length_append, List.getElem?_cons_zero, List.getElem?_cons_succ, List.getElem?_nil, Option.join_some, Option.join_none, List.getD_cons_zero, List.getD_cons_succ, List.getD_nil, Nat.reduceAdd, Nat.reduceLT, Nat.reduceEqDiff, Nat.zero_add, reduceIte, if_true, if_false, and_true, true_and, renL_vcells, allL_vcells, renL_pv, leBlk_some, eq_self, true_or, or_true, reduceCtorEq, false_or, wrap01, mapTL, renL_tc, renL_tc1, allL_tc, allL_app, bdL_tc, allL, Ty.tc, subT])) (rows rest [t] rfl)
set_option maxHeartbeats 4000000 in
theorem sv_ok (s : List Bd) : ∀ (t : Ty), PCall Try.prog 41 [t.enc, .list 4 (encB s)] (subT s t).enc
  | .mk k id ss => by
    have hrec : ∀ t ∈ ss, PCall Try.prog 41 [t.enc, .list 4 (encB s)] (subT s t).enc := fun t ht => sv_ok s t
    refine PCall.intro' (ps := [(subT s (.mk k id ss)).enc]) fn41 (by simp) fun hok => ?_
    have hss : ss.length ≤ 1099511627776 := by
      simp only [PV.okL, Ty.enc, PV.ok, encL_len, big] at hok; exact hok.1.2.2.1.1
    have hsl : s.length ≤ 1099511627776 := by
      simp only [PV.okL, Ty.enc, PV.ok, encB_len, big] at hok; exact hok.2.1.1
    clear hok
    unfold ac41
    simp only [argFr, Ty.enc]
    cases hk1 : (k == 1) with
    | false =>
      have hR : subT s (.mk k id ss) = .mk k id (mapTL (subG s) ss) := by
        simp [subT, mapT, subG, Ty.kd, hk1]
      (repeat' (first|((with_reducible first|refine qqT fun C hC=>?_|refine qqU fun C hC=>?_|intro C hC);simp only [go_sem, hk1, encL_len];((with_reducible first|refine finA hC ?_|refine finD hC ?_);clear hC C))|(with_reducible first|refine qqA fun K hK=>?_|refine qqB fun K hK=>?_|refine qqC fun K hK=>?_|(refine qqD ?_;refine hK _ _ ?_;try clear hK K)|(refine qqE ?_;refine hK _ _ _ ?_ ?_;(focus kernel_rfl);try clear hK K)|(refine qqF ?_;refine hK _ _ ?_;try clear hK K)|refine qqG ?_|refine qqH ?_|refine qqI ?_|refine qqJ ?_|refine qqK ?_|(refine qqL ?_;try clear hK K)|(refine qqM ?_;try clear hK K)|refine qqN ?_|refine qqO ?_|(refine qqP ?_ ?_;focus decide))|((with_reducible first|apply qqQ|apply qqR|apply qqS);focus (simp only [go_sem, hk1, encL_len];exact rfl))|(with_reducible first|refine gk_tt ?_|refine gk_ff ?_|refine ck_t ?_|refine ck_f ?_)|((with_reducible first|refine gk_tf ?_|refine gk_ft ?_|refine gk_u ?_|refine gk_u' ?_);first|(intro _ e;(first|rw [qqY] at e|rw [qqZ] at e);subst e)|(intro _ _ e e';(first|rw [qqY] at e|rw [qqZ] at e);subst e;subst e'))))
      refine awp_loop_k _ (LeB [0, 1] (by refine ⟨?_, ?_, ?_⟩ <;> simp only [leFr, leFb, leHp, V.ren, V.renL, V.bd, V.bdL, allL, lt, Go.Ab.get, hget, List.map_cons, List.map_nil, List.length_cons, List.length_nil, List.length_append, List.getElem?_cons_zero, List.getElem?_cons_succ, List.getElem?_nil, Option.join_some, Option.join_none, List.getD_cons_zero, List.getD_cons_succ, List.getD_nil, Nat.reduceAdd, Nat.reduceLT, Nat.reduceEqDiff, Nat.zero_add, reduceIte, if_true, if_false, and_true, true_and, renL_vcells, allL_vcells, renL_pv, leBlk_some, eq_self, true_or, or_true, reduceCtorEq, false_or])) (sv_first hss hrec k id hR hK)
    | true =>
      (repeat' (first|((with_reducible first|refine qqT fun C hC=>?_|refine qqU fun C hC=>?_|intro C hC);simp only [go_sem, hk1, encB_len];((with_reducible first|refine finA hC ?_|refine finD hC ?_);clear hC C))|(with_reducible first|refine qqA fun K hK=>?_|refine qqB fun K hK=>?_|refine qqC fun K hK=>?_|(refine qqD ?_;refine hK _ _ ?_;try clear hK K)|(refine qqE ?_;refine hK _ _ _ ?_ ?_;(focus kernel_rfl);try clear hK K)|(refine qqF ?_;refine hK _ _ ?_;try clear hK K)|refine qqG ?_|refine qqH ?_|refine qqI ?_|refine qqJ ?_|refine qqK ?_|(refine qqL ?_;try clear hK K)|(refine qqM ?_;try clear hK K)|refine qqN ?_|refine qqO ?_|(refine qqP ?_ ?_;focus decide))|((with_reducible first|apply qqQ|apply qqR|apply qqS);focus (simp only [go_sem, hk1, encB_len];exact rfl))|(with_reducible first|refine gk_tt ?_|refine gk_ff ?_|refine ck_t ?_|refine ck_f ?_)|((with_reducible first|refine gk_tf ?_|refine gk_ft ?_|refine gk_u ?_|refine gk_u' ?_);first|(intro _ e;(first|rw [qqY] at e|rw [qqZ] at e);subst e)|(intro _ _ e e';(first|rw [qqY] at e|rw [qqZ] at e);subst e;subst e'))))
      have rows : ∀ (rest pre : List Bd), pre ++ rest = s → findB s id = findB rest id → loopN (awp Try.prog ac41_l0) (catch_ 0 (thn K (retP [RV.cell 4 3 true] [(subT s (.mk k id ss)).enc]))) (rest.length + 1)
         [(15, .pv (ii pre.length)), (14, .pv (ii s.length)), (13, .pv (.list 4 (encB s))), (4, .ptr 1 0 0), (2, .ptr 0 0 0), (1, .pv (.list 4 (encB s)))]
         [some ⟨false, 29, 3, [[.pv (ii k), .pv (ii id), .pv (.list 3 (encL ss))]], none⟩, some ⟨false, 29, 3, [[.pv (ii 0), .pv (ii 0), .pv (.lit (.slice none 0 0))]], none⟩] := by
        intro rest
        induction rest with
        | nil =>
          intro pre hpre hi
          have hpre : pre = s := by simpa using hpre
          subst hpre
          refine loopN_k fun K1 hK1 => ?_
          unfold ac41_l0
          have hR : subT pre (.mk k id ss) = .mk k id (mapTL (subG pre) ss) := by
            simp [subT, mapT, subG, Ty.kd, Ty.id, hi, findB]
          (repeat' (first|((with_reducible first|refine qqT fun C hC=>?_|refine qqU fun C hC=>?_|intro C hC);simp only [go_sem, lt_end, encL_len];((with_reducible first|refine finA hC ?_|refine finD hC ?_);clear hC C))|(with_reducible first|refine qqA fun K hK=>?_|refine qqB fun K hK=>?_|refine qqC fun K hK=>?_|(refine qqD ?_;refine hK _ _ ?_;try clear hK K)|(refine qqE ?_;refine hK _ _ _ ?_ ?_;(focus kernel_rfl);try clear hK K)|(refine qqF ?_;refine hK _ _ ?_;try clear hK K)|refine qqG ?_|refine qqH ?_|refine qqI ?_|refine qqJ ?_|refine qqK ?_|(refine qqL ?_;try clear hK K)|(refine qqM ?_;try clear hK K)|refine qqN ?_|refine qqO ?_|(refine qqP ?_ ?_;focus decide))|((with_reducible first|apply qqQ|apply qqR|apply qqS);focus (simp only [go_sem, lt_end, encL_len];exact rfl))|(with_reducible first|refine gk_tt ?_|refine gk_ff ?_|refine ck_t ?_|refine ck_f ?_)|((with_reducible first|refine gk_tf ?_|refine gk_ft ?_|refine gk_u ?_|refine gk_u' ?_);first|(intro _ e;(first|rw [qqY] at e|rw [qqZ] at e);subst e)|(intro _ _ e e';(first|rw [qqY] at e|rw [qqZ] at e);subst e;subst e'))))
          refine awp_loop_k _ (LeB [0, 1] (by refine ⟨?_, ?_, ?_⟩ <;> simp only [leFr, leFb, leHp, V.ren, V.renL, V.bd, V.bdL, allL, lt, Go.Ab.get, hget, List.map_cons, List.map_nil, List.length_cons, List.length_nil, List.length_append, List.getElem?_cons_zero, List.getElem?_cons_succ, List.getElem?_nil, Option.join_some, Option.join_none, List.getD_cons_zero, List.getD_cons_succ, List.getD_nil, Nat.reduceAdd, Nat.reduceLT, Nat.reduceEqDiff, Nat.zero_add, reduceIte, if_true, if_false, and_true, true_and, renL_vcells, allL_vcells, renL_pv, leBlk_some, eq_self, true_or, or_true, reduceCtorEq, false_or])) (sv_first hss hrec k id hR hK)
        | cons b rest ih =>
          intro pre hpre hi
          have hlt : decide ((pre.length : Int) < (s.length : Int)) = true := by subst hpre; exact lt_app _ _ _
          have hat : (encB s)[pre.length]? = some b.enc := by subst hpre; exact encB_at _ _ _
          have hb : pre.length + 1 ≤ big := by have := congrArg List.length hpre; simp at this; unfold big; omega
          refine loopN_k fun K1 hK1 => ?_
          unfold ac41_l0
          cases hpt : (b.v == id) with
          | true =>
            have hR : subT s (.mk k id ss) = b.t := by
              simp [subT, mapT, subG, Ty.kd, Ty.id, hi, findB, hpt, hk1]
            (repeat' (first|((with_reducible first|refine qqT fun C hC=>?_|refine qqU fun C hC=>?_|intro C hC);simp only [go_sem, hlt, hat, hpt, pcells_bd];((with_reducible first|refine finA hC ?_|refine finD hC ?_);clear hC C))|(with_reducible first|refine qqA fun K hK=>?_|refine qqB fun K hK=>?_|refine qqC fun K hK=>?_|(refine qqD ?_;refine hK _ _ ?_;try clear hK K)|(refine qqE ?_;refine hK _ _ _ ?_ ?_;(focus kernel_rfl);try clear hK K)|(refine qqF ?_;refine hK _ _ ?_;try clear hK K)|refine qqG ?_|refine qqH ?_|refine qqI ?_|refine qqJ ?_|refine qqK ?_|(refine qqL ?_;try clear hK K)|(refine qqM ?_;try clear hK K)|refine qqN ?_|refine qqO ?_|(refine qqP ?_ ?_;focus decide))|((with_reducible first|apply qqQ|apply qqR|apply qqS);focus (simp only [go_sem, hlt, hat, hpt, pcells_bd];exact rfl))|(with_reducible first|refine gk_tt ?_|refine gk_ff ?_|refine ck_t ?_|refine ck_f ?_)|((with_reducible first|refine gk_tf ?_|refine gk_ft ?_|refine gk_u ?_|refine gk_u' ?_);first|(intro _ e;(first|rw [qqY] at e|rw [qqZ] at e);subst e)|(intro _ _ e e';(first|rw [qqY] at e|rw [qqZ] at e);subst e;subst e'))))
            rw [hR]
            (refine retP_ret (List.range 40) rfl ?_; exact vwA)
          | false =>
            (repeat' (first|((with_reducible first|refine qqT fun C hC=>?_|refine qqU fun C hC=>?_|intro C hC);simp only [go_sem, hlt, hat, hpt, pcells_bd];((with_reducible first|refine finA hC ?_|refine finD hC ?_);clear hC C))|(with_reducible first|refine qqA fun K hK=>?_|refine qqB fun K hK=>?_|refine qqC fun K hK=>?_|(refine qqD ?_;refine hK _ _ ?_;try clear hK K)|(refine qqE ?_;refine hK _ _ _ ?_ ?_;(focus kernel_rfl);try clear hK K)|(refine qqF ?_;refine hK _ _ ?_;try clear hK K)|refine qqG ?_|refine qqH ?_|refine qqI ?_|refine qqJ ?_|refine qqK ?_|(refine qqL ?_;try clear hK K)|(refine qqM ?_;try clear hK K)|refine qqN ?_|refine qqO ?_|(refine qqP ?_ ?_;focus decide))|((with_reducible first|apply qqQ|apply qqR|apply qqS);focus (simp only [go_sem, hlt, hat, hpt, pcells_bd];exact rfl))|(with_reducible first|refine gk_tt ?_|refine gk_ff ?_|refine ck_t ?_|refine ck_f ?_)|((with_reducible first|refine gk_tf ?_|refine gk_ft ?_|refine gk_u ?_|refine gk_u' ?_);first|(intro _ e;(first|rw [qqY] at e|rw [qqZ] at e);subst e)|(intro _ _ e e';(first|rw [qqY] at e|rw [qqZ] at e);subst e;subst e'))))
            have hw := wrapS (n := pre.length) (by unfold big at hb; omega)
            refine qqF ?_
            refine hK1 _ _ _ _ _ (LeB [0, 1] (by refine ⟨?_, ?_, ?_⟩ <;> simp only [leFr, leFb, leHp, V.ren, V.renL, V.bd, V.bdL, allL, lt, Go.Ab.get, hget, List.map_cons, List.map_nil, List.length_cons, List.length_nil, List.length_append, List.getElem?_cons_zero, List.getElem?_cons_succ, List.getElem?_nil, Option.join_some, Option.join_none, List.getD_cons_zero, List.getD_cons_succ, List.getD_nil, Nat.reduceAdd, Nat.reduceLT, Nat.reduceEqDiff, Nat.zero_add, reduceIte, if_true, if_false, and_true, true_and, renL_vcells, allL_vcells, renL_pv, leBlk_some, eq_self, true_or, or_true, reduceCtorEq, false_or, hw, List.length_append])) (ih (pre ++ [b]) (by simp [hpre]) (by simpa only [findB, hpt, Bool.false_eq_true, if_false] using hi))
      refine awp_loop_k _ (LeB [0, 1] (by refine ⟨?_, ?_, ?_⟩ <;> simp only [leFr, leFb, leHp, V.ren, V.renL, V.bd, V.bdL, allL, lt, Go.Ab.get, hget, List.map_cons, List.map_nil, List.length_cons, List.length_nil, List.length_append, List.getElem?_cons_zero, List.getElem?_cons_succ, List.getElem?_nil, Option.join_some, Option.join_none, List.getD_cons_zero, List.getD_cons_succ, List.getD_nil, Nat.reduceAdd, Nat.reduceLT, Nat.reduceEqDiff, Nat.zero_add, reduceIte, if_true, if_false, and_true, true_and, renL_vcells, allL_vcells, renL_pv, leBlk_some, eq_self, true_or, or_true, reduceCtorEq, false_or, c0])) (rows s [] rfl rfl)
termination_by t => SizeOf.sizeOf t
decreasing_by
  have := List.sizeOf_lt_of_mem ht
  simp only [Ty.mk.sizeOf_spec]; omega
end Go.Proofs.Ytiediojibljpiaa
/- The reference's VarsOf. -/
set_option maxRecDepth 10000
set_option linter.unusedSimpArgs false
set_option linter.unusedVariables false
namespace Go.Proofs.Ytiediojibljpiaa
open Go Go.Ab
def addAll : List Int → List Int → List Int
  | xs, [] => xs
  | xs, v :: vs => addAll (if (xs.any fun x => x == v) then xs else xs ++ [v]) vs
mutual
def vo : Ty → List Int
  | .mk k id ss => if k == 1 then [id] else voL ss []
def voL : List Ty → List Int → List Int
  | [], xs => xs
  | t :: ts, xs => voL ts (addAll xs (vo t))
end
theorem addAll_mono : ∀ (vs xs : List Int), xs.length ≤ (addAll xs vs).length
  | [], xs => Nat.le_refl _
  | v :: vs, xs => by
    simp only [addAll]
    refine Nat.le_trans ?_ (addAll_mono vs _)
    by_cases h : (xs.any fun x => x == v) = true
    · rw [if_pos h]; exact Nat.le_refl _
    · rw [if_neg h]; simp
theorem addAll_le : ∀ (vs xs : List Int), (addAll xs vs).length ≤ xs.length + vs.length
  | [], xs => Nat.le_refl _
  | v :: vs, xs => by
    simp only [addAll]
    refine Nat.le_trans (addAll_le vs _) ?_
    by_cases h : (xs.any fun x => x == v) = true
    · rw [if_pos h]; simp
    · rw [if_neg h]; simp; omega
theorem voL_mono : ∀ (ts : List Ty) (xs : List Int), xs.length ≤ (voL ts xs).length
  | [], xs => Nat.le_refl _
  | t :: ts, xs => by simp only [voL]; exact Nat.le_trans (addAll_mono _ _) (voL_mono ts _)
mutual
theorem vo_len : ∀ t : Ty, (vo t).length ≤ nds t
  | .mk k id ss => by
    simp only [vo, nds]
    have := voL_len ss []
    by_cases h : (k == 1) = true
    · rw [if_pos h]; simp
    · rw [if_neg h]; simp at this; omega
theorem voL_len : ∀ (ts : List Ty) (xs : List Int), (voL ts xs).length ≤ xs.length + ndsL ts
  | [], xs => by simp [voL, ndsL]
  | t :: ts, xs => by
    simp only [voL, ndsL]
    have h1 := voL_len ts (addAll xs (vo t))
    have h2 := addAll_le (vo t) xs
    have h3 := vo_len t
    omega
end
set_option maxHeartbeats 4000000 in
/-- the inner loop, the list not nil -/
theorem vin_row (k id : Int) (ss : List Ty) (vs : List Int) (hvs : vs.length ≤ 1099511627776) (F : List Int) (hF : F.length ≤ 1099511627776) (i n : Int) (l : PV) {Q : Exit → Fr → Hp → Prop}
    (hQ : Q .normal [(25, .pv (bb false)), (24, .pv (ii vs.length)), (23, .pv (ii vs.length)), (22, .pv (.list 1 (encI vs))), (17, .pv (ii i)), (16, .pv (ii n)), (15, .pv l), (3, .row 1 F.length false)] [some ⟨false, 29, 3, [[.pv (ii k), .pv (ii id), .pv (.list 3 (encL ss))]], none⟩, some (rowI F)]) :
    ∀ (rest pre xs : List Int), pre ++ rest = vs → F = addAll xs rest → loopN (awp Try.prog ac44_l0) (catch_ 2 Q) (rest.length + 1)
       [(24, .pv (ii pre.length)), (23, .pv (ii vs.length)), (22, .pv (.list 1 (encI vs))), (17, .pv (ii i)), (16, .pv (ii n)), (15, .pv l), (3, .row 1 xs.length false)]
       [some ⟨false, 29, 3, [[.pv (ii k), .pv (ii id), .pv (.list 3 (encL ss))]], none⟩, some (rowI xs)] := by
  intro rest
  induction rest with
  | nil =>
    intro pre xs hpre he
    have hpre : pre = vs := by simpa using hpre
    subst hpre
    simp only [addAll] at he
    subst he
    refine loopN_k fun K1 hK1 => ?_
    unfold ac44_l0
    (repeat' (first|((with_reducible first|refine qqT fun C hC=>?_|refine qqU fun C hC=>?_|intro C hC);simp only [go_sem, lt_end];((with_reducible first|refine finA hC ?_|refine finD hC ?_);clear hC C))|(with_reducible first|refine qqA fun K hK=>?_|refine qqB fun K hK=>?_|refine qqC fun K hK=>?_|(refine qqD ?_;refine hK _ _ ?_;try clear hK K)|(refine qqE ?_;refine hK _ _ _ ?_ ?_;(focus kernel_rfl);try clear hK K)|(refine qqF ?_;refine hK _ _ ?_;try clear hK K)|refine qqG ?_|refine qqH ?_|refine qqI ?_|refine qqJ ?_|refine qqK ?_|(refine qqL ?_;try clear hK K)|(refine qqM ?_;try clear hK K)|refine qqN ?_|refine qqO ?_|(refine qqP ?_ ?_;focus decide))|((with_reducible first|apply qqQ|apply qqR|apply qqS);focus (simp only [go_sem, lt_end];exact rfl))|(with_reducible first|refine gk_tt ?_|refine gk_ff ?_|refine ck_t ?_|refine ck_f ?_)|((with_reducible first|refine gk_tf ?_|refine gk_ft ?_|refine gk_u ?_|refine gk_u' ?_);first|(intro _ e;(first|rw [qqY] at e|rw [qqZ] at e);subst e)|(intro _ _ e e';(first|rw [qqY] at e|rw [qqZ] at e);subst e;subst e'))))
    exact hQ
  | cons v rest ih =>
    intro pre xs hpre he
    have hlt : decide ((pre.length : Int) < (vs.length : Int)) = true := by subst hpre; exact lt_app _ _ _
    have hat : (encI vs)[pre.length]? = some (ii v) := by subst hpre; exact encI_at _ _ _
    have hb : pre.length + 1 ≤ big := by have := congrArg List.length hpre; simp at this; unfold big; omega
    have hw := wrapS (n := pre.length) (by unfold big at hb; omega)
    have hc := hasK_ok xs v
    refine loopN_k fun K1 hK1 => ?_
    unfold ac44_l0
    cases hm : (xs.any fun x => x == v) with
    | true =>
      rw [hm] at hc
      (repeat' (first|((first|(with_reducible refine qqV fun C hC=>?_)|(with_reducible refine qqW fun C hC=>?_)|((with_reducible intro C hC);(with_reducible refine qqX ?_)));(first|(simp only [go_sem, hlt, hat];(first|((with_reducible apply ACall.pure0 [1] (hc));(focus (exact vwA))))));(simp only [go_sem, hlt, hat]);((with_reducible first|refine finA hC ?_|refine finD hC ?_);clear hC C))|((with_reducible first|refine qqT fun C hC=>?_|refine qqU fun C hC=>?_|intro C hC);simp only [go_sem, hlt, hat];((with_reducible first|refine finA hC ?_|refine finD hC ?_);clear hC C))|(with_reducible first|refine qqA fun K hK=>?_|refine qqB fun K hK=>?_|refine qqC fun K hK=>?_|(refine qqD ?_;refine hK _ _ ?_;try clear hK K)|(refine qqE ?_;refine hK _ _ _ ?_ ?_;(focus kernel_rfl);try clear hK K)|(refine qqF ?_;refine hK _ _ ?_;try clear hK K)|refine qqG ?_|refine qqH ?_|refine qqI ?_|refine qqJ ?_|refine qqK ?_|(refine qqL ?_;try clear hK K)|(refine qqM ?_;try clear hK K)|refine qqN ?_|refine qqO ?_|(refine qqP ?_ ?_;focus decide))|((with_reducible first|apply qqQ|apply qqR|apply qqS);focus (simp only [go_sem, hlt, hat];exact rfl))|(with_reducible first|refine gk_tt ?_|refine gk_ff ?_|refine ck_t ?_|refine ck_f ?_)|((with_reducible first|refine gk_tf ?_|refine gk_ft ?_|refine gk_u ?_|refine gk_u' ?_);first|(intro _ e;(first|rw [qqY] at e|rw [qqZ] at e);subst e)|(intro _ _ e e';(first|rw [qqY] at e|rw [qqZ] at e);subst e;subst e'))))
      refine qqF ?_
      refine hK1 _ _ _ _ _ (LeB [0, 1] (by refine ⟨?_, ?_, ?_⟩ <;> simp only [leFr, leFb, leHp, V.ren, V.renL, V.bd, V.bdL, allL, lt, Go.Ab.get, hget, List.map_cons, List.map_nil, List.length_cons, List.length_nil, List.length_append, List.getElem?_cons_zero, List.getElem?_cons_succ, List.getElem?_nil, Option.join_some, Option.join_none, List.getD_cons_zero, List.getD_cons_succ, List.getD_nil, Nat.reduceAdd, Nat.reduceLT, Nat.reduceEqDiff, Nat.zero_add, reduceIte, if_true, if_false, and_true, true_and, renL_vcells, allL_vcells, renL_pv, leBlk_some, eq_self, true_or, or_true, reduceCtorEq, false_or, hw, List.length_append, renL_cI, allL_cI])) (ih (pre ++ [v]) xs (by simp [hpre]) (by simpa only [addAll, hm, if_true] using he))
    | false =>
      rw [hm] at hc
      have he' : F = addAll (xs ++ [v]) rest := by simpa only [addAll, hm, Bool.false_eq_true, if_false] using he
      have hl1 : xs.length + 1 ≤ big := by
        have := addAll_mono rest (xs ++ [v])
        rw [← he'] at this
        simp at this; unfold big; omega
      (repeat' (first|((first|(with_reducible refine qqV fun C hC=>?_)|(with_reducible refine qqW fun C hC=>?_)|((with_reducible intro C hC);(with_reducible refine qqX ?_)));(first|(simp only [go_sem, hlt, hat, List.length_map, hl1];(first|((with_reducible apply ACall.pure0 [1] (hc));(focus (exact vwA))))));(simp only [go_sem, hlt, hat, List.length_map, hl1]);((with_reducible first|refine finA hC ?_|refine finD hC ?_);clear hC C))|((with_reducible first|refine qqT fun C hC=>?_|refine qqU fun C hC=>?_|intro C hC);simp only [go_sem, hlt, hat, List.length_map, hl1];((with_reducible first|refine finA hC ?_|refine finD hC ?_);clear hC C))|(with_reducible first|refine qqA fun K hK=>?_|refine qqB fun K hK=>?_|refine qqC fun K hK=>?_|(refine qqD ?_;refine hK _ _ ?_;try clear hK K)|(refine qqE ?_;refine hK _ _ _ ?_ ?_;(focus kernel_rfl);try clear hK K)|(refine qqF ?_;refine hK _ _ ?_;try clear hK K)|refine qqG ?_|refine qqH ?_|refine qqI ?_|refine qqJ ?_|refine qqK ?_|(refine qqL ?_;try clear hK K)|(refine qqM ?_;try clear hK K)|refine qqN ?_|refine qqO ?_|(refine qqP ?_ ?_;focus decide))|((with_reducible first|apply qqQ|apply qqR|apply qqS);focus (simp only [go_sem, hlt, hat, List.length_map, hl1];exact rfl))|(with_reducible first|refine gk_tt ?_|refine gk_ff ?_|refine ck_t ?_|refine ck_f ?_)|((with_reducible first|refine gk_tf ?_|refine gk_ft ?_|refine gk_u ?_|refine gk_u' ?_);first|(intro _ e;(first|rw [qqY] at e|rw [qqZ] at e);subst e)|(intro _ _ e e';(first|rw [qqY] at e|rw [qqZ] at e);subst e;subst e'))))
      refine qqF ?_
      refine hK1 _ _ _ _ _ (LeB [0, 3] (by refine ⟨?_, ?_, ?_⟩ <;> simp only [leFr, leFb, leHp, V.ren, V.renL, V.bd, V.bdL, allL, lt, Go.Ab.get, hget, List.map_cons, List.map_nil, List.length_cons, List.length_nil, List.length_append, List.getElem?_cons_zero, List.getElem?_cons_succ, List.getElem?_nil, Option.join_some, Option.join_none, List.getD_cons_zero, List.getD_cons_succ, List.getD_nil, Nat.reduceAdd, Nat.reduceLT, Nat.reduceEqDiff, Nat.zero_add, reduceIte, if_true, if_false, and_true, true_and, renL_vcells, allL_vcells, renL_pv, leBlk_some, eq_self, true_or, or_true, reduceCtorEq, false_or, hw, List.length_append, renL_cI, allL_cI, List.map_append, cI, allL_app])) (ih (pre ++ [v]) (xs ++ [v]) (by simp [hpre]) he')
set_option maxHeartbeats 4000000 in
/-- the inner loop, the list nil: one round makes it a row -/
theorem vin_nil (k id : Int) (ss : List Ty) (v : Int) (rest : List Int) (hvs : (v :: rest).length ≤ 1099511627776) (F : List Int) (hF : F.length ≤ 1099511627776) (i n : Int) (l : PV) {Q : Exit → Fr → Hp → Prop}
    (hQ : Q .normal [(25, .pv (bb false)), (24, .pv (ii (v :: rest).length)), (23, .pv (ii (v :: rest).length)), (22, .pv (.list 1 (encI (v :: rest)))), (17, .pv (ii i)), (16, .pv (ii n)), (15, .pv l), (3, .row 1 F.length false)] [some ⟨false, 29, 3, [[.pv (ii k), .pv (ii id), .pv (.list 3 (encL ss))]], none⟩, some (rowI F)])
    (he : F = addAll [] (v :: rest)) : loopN (awp Try.prog ac44_l0) (catch_ 2 Q) ((v :: rest).length + 1)
       [(24, .pv (ii 0)), (23, .pv (ii (v :: rest).length)), (22, .pv (.list 1 (encI (v :: rest)))), (17, .pv (ii i)), (16, .pv (ii n)), (15, .pv l), (3, .pv (.lit (.slice none 0 0)))]
       [some ⟨false, 29, 3, [[.pv (ii k), .pv (ii id), .pv (.list 3 (encL ss))]], none⟩] := by
  have rows := vin_row k id ss (v :: rest) hvs F hF i n l hQ rest [v] [v] rfl (by simpa [addAll] using he)
  have lt0 : decide ((0 : Int) < ((v :: rest).length : Int)) = true := by simp
  have hc := hasK_ok [] v
  refine loopN_k fun K1 hK1 => ?_
  unfold ac44_l0
  (repeat' (first|((first|(with_reducible refine qqV fun C hC=>?_)|(with_reducible refine qqW fun C hC=>?_)|((with_reducible intro C hC);(with_reducible refine qqX ?_)));(first|(simp only [go_sem, lt0, encI, List.any_nil];(first|((with_reducible apply ACall.pure0 [] (hc));(focus (exact vwA))))));(simp only [go_sem, lt0, encI, List.any_nil]);((with_reducible first|refine finA hC ?_|refine finD hC ?_);clear hC C))|((with_reducible first|refine qqT fun C hC=>?_|refine qqU fun C hC=>?_|intro C hC);simp only [go_sem, lt0, encI, List.any_nil];((with_reducible first|refine finA hC ?_|refine finD hC ?_);clear hC C))|(with_reducible first|refine qqA fun K hK=>?_|refine qqB fun K hK=>?_|refine qqC fun K hK=>?_|(refine qqD ?_;refine hK _ _ ?_;try clear hK K)|(refine qqE ?_;refine hK _ _ _ ?_ ?_;(focus kernel_rfl);try clear hK K)|(refine qqF ?_;refine hK _ _ ?_;try clear hK K)|refine qqG ?_|refine qqH ?_|refine qqI ?_|refine qqJ ?_|refine qqK ?_|(refine qqL ?_;try clear hK K)|(refine qqM ?_;try clear hK K)|refine qqN ?_|refine qqO ?_|(refine qqP ?_ ?_;focus decide))|((with_reducible first|apply qqQ|apply qqR|apply qqS);focus (simp only [go_sem, lt0, encI, List.any_nil];exact rfl))|(with_reducible first|refine gk_tt ?_|refine gk_ff ?_|refine ck_t ?_|refine ck_f ?_)|((with_reducible first|refine gk_tf ?_|refine gk_ft ?_|refine gk_u ?_|refine gk_u' ?_);first|(intro _ e;(first|rw [qqY] at e|rw [qqZ] at e);subst e)|(intro _ _ e e';(first|rw [qqY] at e|rw [qqZ] at e);subst e;subst e'))))
  refine qqF ?_
  refine hK1 _ _ _ _ _ (LeB [0, 2] (by refine ⟨?_, ?_, ?_⟩ <;> simp only [leFr, leFb, leHp, V.ren, V.renL, V.bd, V.bdL, allL, lt, Go.Ab.get, hget, List.map_cons, List.map_nil, List.length_cons, List.length_nil, List.length_append, List.getElem?_cons_zero, List.getElem?_cons_succ, List.getElem?_nil, Option.join_some, Option.join_none, List.getD_cons_zero, List.getD_cons_succ, List.getD_nil, Nat.reduceAdd, Nat.reduceLT, Nat.reduceEqDiff, Nat.zero_add, reduceIte, if_true, if_false, and_true, true_and, renL_vcells, allL_vcells, renL_pv, leBlk_some, eq_self, true_or, or_true, reduceCtorEq, false_or, wrap01, renL_cI, renL_cI1, allL_cI, bdL_cI1, allL_app, List.map_cons, allL, cI])) rows
end Go.Proofs.Ytiediojibljpiaa
/- The reference's VarsOf: outer loop, contract. -/
set_option maxRecDepth 10000
set_option linter.unusedSimpArgs false
set_option linter.unusedVariables false
namespace Go.Proofs.Ytiediojibljpiaa
open Go Go.Ab
def tailO : AC := AC.seq (.reg [⟨some 38, .mov (.tmp 3), none⟩, ⟨some 2, .mov (.tmp 38), none⟩]) .ret
set_option maxHeartbeats 4000000 in
/-- the outer loop, the list not nil -/
theorem vout_row (k id : Int) {ss : List Ty} (hss : ss.length ≤ 1099511627776) (hrec : ∀ t ∈ ss, PCall Try.prog 44 [t.enc] (.list 1 (encI (vo t)))) (hlen : ∀ t ∈ ss, (vo t).length ≤ 1099511627776) (F : List Int) (hF : F.length ≤ 1099511627776) {K : Fr → Hp → Prop}
    (hKv : ∀ fr H, awp Try.prog tailO (retP [.tmp 2] [.list 1 (encI F)]) fr H → K fr H) :
    ∀ (rest pre : List Ty) (xs : List Int), pre ++ rest = ss → F = voL rest xs → loopN (awp Try.prog ac44_l1) (catch_ 0 (thn K (retP [.tmp 2] [.list 1 (encI F)]))) (rest.length + 1)
       [(17, .pv (ii pre.length)), (16, .pv (ii ss.length)), (15, .pv (.list 3 (encL ss))), (3, .row 1 xs.length false)]
       [some ⟨false, 29, 3, [[.pv (ii k), .pv (ii id), .pv (.list 3 (encL ss))]], none⟩, some (rowI xs)] := by
  intro rest
  induction rest with
  | nil =>
    intro pre xs hpre he
    have hpre : pre = ss := by simpa using hpre
    subst hpre
    simp only [voL] at he
    subst he
    refine loopN_k fun K1 hK1 => ?_
    unfold ac44_l1
    (repeat' (first|((with_reducible first|refine qqT fun C hC=>?_|refine qqU fun C hC=>?_|intro C hC);simp only [go_sem, lt_end];((with_reducible first|refine finA hC ?_|refine finD hC ?_);clear hC C))|(with_reducible first|refine qqA fun K hK=>?_|refine qqB fun K hK=>?_|refine qqC fun K hK=>?_|(refine qqD ?_;refine hK _ _ ?_;try clear hK K)|(refine qqE ?_;refine hK _ _ _ ?_ ?_;(focus kernel_rfl);try clear hK K)|(refine qqF ?_;refine hK _ _ ?_;try clear hK K)|refine qqG ?_|refine qqH ?_|refine qqI ?_|refine qqJ ?_|refine qqK ?_|(refine qqL ?_;try clear hK K)|(refine qqM ?_;try clear hK K)|refine qqN ?_|refine qqO ?_|(refine qqP ?_ ?_;focus decide))|((with_reducible first|apply qqQ|apply qqR|apply qqS);focus (simp only [go_sem, lt_end];exact rfl))|(with_reducible first|refine gk_tt ?_|refine gk_ff ?_|refine ck_t ?_|refine ck_f ?_)|((with_reducible first|refine gk_tf ?_|refine gk_ft ?_|refine gk_u ?_|refine gk_u' ?_);first|(intro _ e;(first|rw [qqY] at e|rw [qqZ] at e);subst e)|(intro _ _ e e';(first|rw [qqY] at e|rw [qqZ] at e);subst e;subst e'))))
    refine hKv _ _ ?_
    unfold tailO
    (repeat' (first|((with_reducible first|refine qqT fun C hC=>?_|refine qqU fun C hC=>?_|intro C hC);simp only [go_sem];((with_reducible first|refine finA hC ?_|refine finD hC ?_);clear hC C))|(with_reducible first|refine qqA fun K hK=>?_|refine qqB fun K hK=>?_|refine qqC fun K hK=>?_|(refine qqD ?_;refine hK _ _ ?_;try clear hK K)|(refine qqE ?_;refine hK _ _ _ ?_ ?_;(focus kernel_rfl);try clear hK K)|(refine qqF ?_;refine hK _ _ ?_;try clear hK K)|refine qqG ?_|refine qqH ?_|refine qqI ?_|refine qqJ ?_|refine qqK ?_|(refine qqL ?_;try clear hK K)|(refine qqM ?_;try clear hK K)|refine qqN ?_|refine qqO ?_|(refine qqP ?_ ?_;focus decide))|((with_reducible first|apply qqQ|apply qqR|apply qqS);focus (simp only [go_sem];exact rfl))|(with_reducible first|refine gk_tt ?_|refine gk_ff ?_|refine ck_t ?_|refine ck_f ?_)|((with_reducible first|refine gk_tf ?_|refine gk_ft ?_|refine gk_u ?_|refine gk_u' ?_);first|(intro _ e;(first|rw [qqY] at e|rw [qqZ] at e);subst e)|(intro _ _ e e';(first|rw [qqY] at e|rw [qqZ] at e);subst e;subst e'))))
    (refine retP_ret (List.range 40) rfl ?_; exact vwA)
  | cons t rest ih =>
    intro pre xs hpre he
    have hlt : decide ((pre.length : Int) < (ss.length : Int)) = true := by subst hpre; exact lt_app _ _ _
    have hat : (encL ss)[pre.length]? = some t.enc := by subst hpre; exact encL_at _ _ _
    have hb : pre.length + 1 ≤ big := by have := congrArg List.length hpre; simp at this; unfold big; omega
    have hw := wrapS (n := pre.length) (by unfold big at hb; omega)
    have hm : t ∈ ss := by subst hpre; simp
    have hc := hrec t hm
    have hl := hlen t hm
    have hF1 : (addAll xs (vo t)).length ≤ 1099511627776 := by
      rw [he, voL] at hF
      exact Nat.le_trans (voL_mono rest _) hF
    refine loopN_k fun K1 hK1 => ?_
    unfold ac44_l1
    (repeat' (first|((first|(with_reducible refine qqV fun C hC=>?_)|(with_reducible refine qqW fun C hC=>?_)|((with_reducible intro C hC);(with_reducible refine qqX ?_)));(first|(simp only [go_sem, hlt, hat, cells_enc, pcells_enc, Ty.tc, encI_len];(first|((with_reducible apply ACall.pure0 [] (hc));(focus (exact vwA))))));(simp only [go_sem, hlt, hat, cells_enc, pcells_enc, Ty.tc, encI_len]);((with_reducible first|refine finA hC ?_|refine finD hC ?_);clear hC C))|((with_reducible first|refine qqT fun C hC=>?_|refine qqU fun C hC=>?_|intro C hC);simp only [go_sem, hlt, hat, cells_enc, pcells_enc, Ty.tc, encI_len];((with_reducible first|refine finA hC ?_|refine finD hC ?_);clear hC C))|(with_reducible first|refine qqA fun K hK=>?_|refine qqB fun K hK=>?_|refine qqC fun K hK=>?_|(refine qqD ?_;refine hK _ _ ?_;try clear hK K)|(refine qqE ?_;refine hK _ _ _ ?_ ?_;(focus kernel_rfl);try clear hK K)|(refine qqF ?_;refine hK _ _ ?_;try clear hK K)|refine qqG ?_|refine qqH ?_|refine qqI ?_|refine qqJ ?_|refine qqK ?_|(refine qqL ?_;try clear hK K)|(refine qqM ?_;try clear hK K)|refine qqN ?_|refine qqO ?_|(refine qqP ?_ ?_;focus decide))|((with_reducible first|apply qqQ|apply qqR|apply qqS);focus (simp only [go_sem, hlt, hat, cells_enc, pcells_enc, Ty.tc, encI_len];exact rfl))|(with_reducible first|refine gk_tt ?_|refine gk_ff ?_|refine ck_t ?_|refine ck_f ?_)|((with_reducible first|refine gk_tf ?_|refine gk_ft ?_|refine gk_u ?_|refine gk_u' ?_);first|(intro _ e;(first|rw [qqY] at e|rw [qqZ] at e);subst e)|(intro _ _ e e';(first|rw [qqY] at e|rw [qqZ] at e);subst e;subst e'))))
    refine awp_loop_k _ (LeB [0, 1] (by refine ⟨?_, ?_, ?_⟩ <;> simp only [leFr, leFb, leHp, V.ren, V.renL, V.bd, V.bdL, allL, lt, Go.Ab.get, hget, List.map_cons, List.map_nil, List.length_cons, List.length_nil, List.length_append, List.getElem?_cons_zero, List.getElem?_cons_succ, List.getElem?_nil, Option.join_some, Option.join_none, List.getD_cons_zero, List.getD_cons_succ, List.getD_nil, Nat.reduceAdd, Nat.reduceLT, Nat.reduceEqDiff, Nat.zero_add, reduceIte, if_true, if_false, and_true, true_and, renL_vcells, allL_vcells, renL_pv, leBlk_some, eq_self, true_or, or_true, reduceCtorEq, false_or, c0, renL_cI, allL_cI])) (vin_row k id ss (vo t) hl _ hF1 pre.length ss.length (.list 3 (encL ss)) ?_ (vo t) [] xs rfl rfl)
    (repeat' (first|((with_reducible first|refine qqT fun C hC=>?_|refine qqU fun C hC=>?_|intro C hC);simp only [go_sem];((with_reducible first|refine finA hC ?_|refine finD hC ?_);clear hC C))|(with_reducible first|refine qqA fun K hK=>?_|refine qqB fun K hK=>?_|refine qqC fun K hK=>?_|(refine qqD ?_;refine hK _ _ ?_;try clear hK K)|(refine qqE ?_;refine hK _ _ _ ?_ ?_;(focus kernel_rfl);try clear hK K)|(refine qqF ?_;refine hK _ _ ?_;try clear hK K)|refine qqG ?_|refine qqH ?_|refine qqI ?_|refine qqJ ?_|refine qqK ?_|(refine qqL ?_;try clear hK K)|(refine qqM ?_;try clear hK K)|refine qqN ?_|refine qqO ?_|(refine qqP ?_ ?_;focus decide))|((with_reducible first|apply qqQ|apply qqR|apply qqS);focus (simp only [go_sem];exact rfl))|(with_reducible first|refine gk_tt ?_|refine gk_ff ?_|refine ck_t ?_|refine ck_f ?_)|((with_reducible first|refine gk_tf ?_|refine gk_ft ?_|refine gk_u ?_|refine gk_u' ?_);first|(intro _ e;(first|rw [qqY] at e|rw [qqZ] at e);subst e)|(intro _ _ e e';(first|rw [qqY] at e|rw [qqZ] at e);subst e;subst e'))))
    refine hK1 _ _ _ _ _ (LeB [0, 1] (by refine ⟨?_, ?_, ?_⟩ <;> simp only [leFr, leFb, leHp, V.ren, V.renL, V.bd, V.bdL, allL, lt, Go.Ab.get, hget, List.map_cons, List.map_nil, List.length_cons, List.length_nil, List.length_append, List.getElem?_cons_zero, List.getElem?_cons_succ, List.getElem?_nil, Option.join_some, Option.join_none, List.getD_cons_zero, List.getD_cons_succ, List.getD_nil, Nat.reduceAdd, Nat.reduceLT, Nat.reduceEqDiff, Nat.zero_add, reduceIte, if_true, if_false, and_true, true_and, renL_vcells, allL_vcells, renL_pv, leBlk_some, eq_self, true_or, or_true, reduceCtorEq, false_or, hw, List.length_append, renL_cI, allL_cI])) (ih (pre ++ [t]) (addAll xs (vo t)) (by simp [hpre]) (by simpa only [voL] using he))
set_option maxHeartbeats 4000000 in
/-- the outer loop, the list nil -/
theorem vout_nil (k id : Int) {ss : List Ty} (hss : ss.length ≤ 1099511627776) (hrec : ∀ t ∈ ss, PCall Try.prog 44 [t.enc] (.list 1 (encI (vo t)))) (hlen : ∀ t ∈ ss, (vo t).length ≤ 1099511627776) (F : List Int) (hF : F.length ≤ 1099511627776) {K : Fr → Hp → Prop}
    (hKv : ∀ fr H, awp Try.prog tailO (retP [.tmp 2] [.list 1 (encI F)]) fr H → K fr H) :
    ∀ (rest pre : List Ty), pre ++ rest = ss → F = voL rest [] → loopN (awp Try.prog ac44_l1) (catch_ 0 (thn K (retP [.tmp 2] [.list 1 (encI F)]))) (rest.length + 1)
       [(17, .pv (ii pre.length)), (16, .pv (ii ss.length)), (15, .pv (.list 3 (encL ss))), (3, .pv (.lit (.slice none 0 0)))]
       [some ⟨false, 29, 3, [[.pv (ii k), .pv (ii id), .pv (.list 3 (encL ss))]], none⟩] := by
  have rows := vout_row k id hss hrec hlen F hF hKv
  intro rest
  induction rest with
  | nil =>
    intro pre hpre he
    have hpre : pre = ss := by simpa using hpre
    subst hpre
    simp only [voL] at he
    subst he
    refine loopN_k fun K1 hK1 => ?_
    unfold ac44_l1
    (repeat' (first|((with_reducible first|refine qqT fun C hC=>?_|refine qqU fun C hC=>?_|intro C hC);simp only [go_sem, lt_end];((with_reducible first|refine finA hC ?_|refine finD hC ?_);clear hC C))|(with_reducible first|refine qqA fun K hK=>?_|refine qqB fun K hK=>?_|refine qqC fun K hK=>?_|(refine qqD ?_;refine hK _ _ ?_;try clear hK K)|(refine qqE ?_;refine hK _ _ _ ?_ ?_;(focus kernel_rfl);try clear hK K)|(refine qqF ?_;refine hK _ _ ?_;try clear hK K)|refine qqG ?_|refine qqH ?_|refine qqI ?_|refine qqJ ?_|refine qqK ?_|(refine qqL ?_;try clear hK K)|(refine qqM ?_;try clear hK K)|refine qqN ?_|refine qqO ?_|(refine qqP ?_ ?_;focus decide))|((with_reducible first|apply qqQ|apply qqR|apply qqS);focus (simp only [go_sem, lt_end];exact rfl))|(with_reducible first|refine gk_tt ?_|refine gk_ff ?_|refine ck_t ?_|refine ck_f ?_)|((with_reducible first|refine gk_tf ?_|refine gk_ft ?_|refine gk_u ?_|refine gk_u' ?_);first|(intro _ e;(first|rw [qqY] at e|rw [qqZ] at e);subst e)|(intro _ _ e e';(first|rw [qqY] at e|rw [qqZ] at e);subst e;subst e'))))
    refine hKv _ _ ?_
    unfold tailO
    (repeat' (first|((with_reducible first|refine qqT fun C hC=>?_|refine qqU fun C hC=>?_|intro C hC);simp only [go_sem];((with_reducible first|refine finA hC ?_|refine finD hC ?_);clear hC C))|(with_reducible first|refine qqA fun K hK=>?_|refine qqB fun K hK=>?_|refine qqC fun K hK=>?_|(refine qqD ?_;refine hK _ _ ?_;try clear hK K)|(refine qqE ?_;refine hK _ _ _ ?_ ?_;(focus kernel_rfl);try clear hK K)|(refine qqF ?_;refine hK _ _ ?_;try clear hK K)|refine qqG ?_|refine qqH ?_|refine qqI ?_|refine qqJ ?_|refine qqK ?_|(refine qqL ?_;try clear hK K)|(refine qqM ?_;try clear hK K)|refine qqN ?_|refine qqO ?_|(refine qqP ?_ ?_;focus decide))|((with_reducible first|apply qqQ|apply qqR|apply qqS);focus (simp only [go_sem];exact rfl))|(with_reducible first|refine gk_tt ?_|refine gk_ff ?_|refine ck_t ?_|refine ck_f ?_)|((with_reducible first|refine gk_tf ?_|refine gk_ft ?_|refine gk_u ?_|refine gk_u' ?_);first|(intro _ e;(first|rw [qqY] at e|rw [qqZ] at e);subst e)|(intro _ _ e e';(first|rw [qqY] at e|rw [qqZ] at e);subst e;subst e'))))
    (refine retP_ret (List.range 40) rfl ?_; exact vwA)
  | cons t rest ih =>
    intro pre hpre he
    have hlt : decide ((pre.length : Int) < (ss.length : Int)) = true := by subst hpre; exact lt_app _ _ _
    have hat : (encL ss)[pre.length]? = some t.enc := by subst hpre; exact encL_at _ _ _
    have hb : pre.length + 1 ≤ big := by have := congrArg List.length hpre; simp at this; unfold big; omega
    have hw := wrapS (n := pre.length) (by unfold big at hb; omega)
    have hm : t ∈ ss := by subst hpre; simp
    have hc := hrec t hm
    have hl := hlen t hm
    have hF1 : (addAll [] (vo t)).length ≤ 1099511627776 := by
      rw [he, voL] at hF
      exact Nat.le_trans (voL_mono rest _) hF
    cases hv : vo t with
    | nil =>
      rw [hv] at hc
      refine loopN_k fun K1 hK1 => ?_
      unfold ac44_l1
      (repeat' (first|((first|(with_reducible refine qqV fun C hC=>?_)|(with_reducible refine qqW fun C hC=>?_)|((with_reducible intro C hC);(with_reducible refine qqX ?_)));(first|(simp only [go_sem, hlt, hat, cells_enc, pcells_enc, Ty.tc, encI];(first|((with_reducible apply ACall.pure0 [] (hc));(focus (exact vwA))))));(simp only [go_sem, hlt, hat, cells_enc, pcells_enc, Ty.tc, encI]);((with_reducible first|refine finA hC ?_|refine finD hC ?_);clear hC C))|((with_reducible first|refine qqT fun C hC=>?_|refine qqU fun C hC=>?_|intro C hC);simp only [go_sem, hlt, hat, cells_enc, pcells_enc, Ty.tc, encI];((with_reducible first|refine finA hC ?_|refine finD hC ?_);clear hC C))|(with_reducible first|refine qqA fun K hK=>?_|refine qqB fun K hK=>?_|refine qqC fun K hK=>?_|(refine qqD ?_;refine hK _ _ ?_;try clear hK K)|(refine qqE ?_;refine hK _ _ _ ?_ ?_;(focus kernel_rfl);try clear hK K)|(refine qqF ?_;refine hK _ _ ?_;try clear hK K)|refine qqG ?_|refine qqH ?_|refine qqI ?_|refine qqJ ?_|refine qqK ?_|(refine qqL ?_;try clear hK K)|(refine qqM ?_;try clear hK K)|refine qqN ?_|refine qqO ?_|(refine qqP ?_ ?_;focus decide))|((with_reducible first|apply qqQ|apply qqR|apply qqS);focus (simp only [go_sem, hlt, hat, cells_enc, pcells_enc, Ty.tc, encI];exact rfl))|(with_reducible first|refine gk_tt ?_|refine gk_ff ?_|refine ck_t ?_|refine ck_f ?_)|((with_reducible first|refine gk_tf ?_|refine gk_ft ?_|refine gk_u ?_|refine gk_u' ?_);first|(intro _ e;(first|rw [qqY] at e|rw [qqZ] at e);subst e)|(intro _ _ e e';(first|rw [qqY] at e|rw [qqZ] at e);subst e;subst e'))))
      have first : ∀ {Q : Exit → Fr → Hp → Prop}, Q .normal [(25, .pv (bb false)), (24, .pv (ii 0)), (23, .pv (ii 0)), (22, .pv (.list 1 [])), (17, .pv (ii pre.length)), (16, .pv (ii ss.length)), (15, .pv (.list 3 (encL ss))), (3, .pv (.lit (.slice none 0 0)))] [some ⟨false, 29, 3, [[.pv (ii k), .pv (ii id), .pv (.list 3 (encL ss))]], none⟩] →
         loopN (awp Try.prog ac44_l0) (catch_ 2 Q) 1 [(24, .pv (ii 0)), (23, .pv (ii 0)), (22, .pv (.list 1 [])), (17, .pv (ii pre.length)), (16, .pv (ii ss.length)), (15, .pv (.list 3 (encL ss))), (3, .pv (.lit (.slice none 0 0)))] [some ⟨false, 29, 3, [[.pv (ii k), .pv (ii id), .pv (.list 3 (encL ss))]], none⟩] := by
        intro Q hQ
        refine loopN_k fun K1 hK1 => ?_
        unfold ac44_l0
        (repeat' (first|((with_reducible first|refine qqT fun C hC=>?_|refine qqU fun C hC=>?_|intro C hC);simp only [go_sem, lt_zero];((with_reducible first|refine finA hC ?_|refine finD hC ?_);clear hC C))|(with_reducible first|refine qqA fun K hK=>?_|refine qqB fun K hK=>?_|refine qqC fun K hK=>?_|(refine qqD ?_;refine hK _ _ ?_;try clear hK K)|(refine qqE ?_;refine hK _ _ _ ?_ ?_;(focus kernel_rfl);try clear hK K)|(refine qqF ?_;refine hK _ _ ?_;try clear hK K)|refine qqG ?_|refine qqH ?_|refine qqI ?_|refine qqJ ?_|refine qqK ?_|(refine qqL ?_;try clear hK K)|(refine qqM ?_;try clear hK K)|refine qqN ?_|refine qqO ?_|(refine qqP ?_ ?_;focus decide))|((with_reducible first|apply qqQ|apply qqR|apply qqS);focus (simp only [go_sem, lt_zero];exact rfl))|(with_reducible first|refine gk_tt ?_|refine gk_ff ?_|refine ck_t ?_|refine ck_f ?_)|((with_reducible first|refine gk_tf ?_|refine gk_ft ?_|refine gk_u ?_|refine gk_u' ?_);first|(intro _ e;(first|rw [qqY] at e|rw [qqZ] at e);subst e)|(intro _ _ e e';(first|rw [qqY] at e|rw [qqZ] at e);subst e;subst e'))))
        exact hQ
      refine awp_loop_k _ (LeB [0] (by refine ⟨?_, ?_, ?_⟩ <;> simp only [leFr, leFb, leHp, V.ren, V.renL, V.bd, V.bdL, allL, lt, Go.Ab.get, hget, List.map_cons, List.map_nil, List.length_cons, List.length_nil, List.length_append, List.getElem?_cons_zero, List.getElem?_cons_succ, List.getElem?_nil, Option.join_some, Option.join_none, List.getD_cons_zero, List.getD_cons_succ, List.getD_nil, Nat.reduceAdd, Nat.reduceLT, Nat.reduceEqDiff, Nat.zero_add, reduceIte, if_true, if_false, and_true, true_and, renL_vcells, allL_vcells, renL_pv, leBlk_some, eq_self, true_or, or_true, reduceCtorEq, false_or, c0])) (first ?_)
      (repeat' (first|((with_reducible first|refine qqT fun C hC=>?_|refine qqU fun C hC=>?_|intro C hC);simp only [go_sem];((with_reducible first|refine finA hC ?_|refine finD hC ?_);clear hC C))|(with_reducible first|refine qqA fun K hK=>?_|refine qqB fun K hK=>?_|refine qqC fun K hK=>?_|(refine qqD ?_;refine hK _ _ ?_;try clear hK K)|(refine qqE ?_;refine hK _ _ _ ?_ ?_;(focus kernel_rfl);try clear hK K)|(refine qqF ?_;refine hK _ _ ?_;try clear hK K)|refine qqG ?_|refine qqH ?_|refine qqI ?_|refine qqJ ?_|refine qqK ?_|(refine qqL ?_;try clear hK K)|(refine qqM ?_;try clear hK K)|refine qqN ?_|refine qqO ?_|(refine qqP ?_ ?_;focus decide))|((with_reducible first|apply qqQ|apply qqR|apply qqS);focus (simp only [go_sem];exact rfl))|(with_reducible first|refine gk_tt ?_|refine gk_ff ?_|refine ck_t ?_|refine ck_f ?_)|((with_reducible first|refine gk_tf ?_|refine gk_ft ?_|refine gk_u ?_|refine gk_u' ?_);first|(intro _ e;(first|rw [qqY] at e|rw [qqZ] at e);subst e)|(intro _ _ e e';(first|rw [qqY] at e|rw [qqZ] at e);subst e;subst e'))))
      refine hK1 _ _ _ _ _ (LeB [0] (by refine ⟨?_, ?_, ?_⟩ <;> simp only [leFr, leFb, leHp, V.ren, V.renL, V.bd, V.bdL, allL, lt, Go.Ab.get, hget, List.map_cons, List.map_nil, List.length_cons, List.length_nil, List.length_append, List.getElem?_cons_zero, List.getElem?_cons_succ, List.getElem?_nil, Option.join_some, Option.join_none, List.getD_cons_zero, List.getD_cons_succ, List.getD_nil, Nat.reduceAdd, Nat.reduceLT, Nat.reduceEqDiff, Nat.zero_add, reduceIte, if_true, if_false, and_true, true_and, renL_vcells, allL_vcells, renL_pv, leBlk_some, eq_self, true_or, or_true, reduceCtorEq, false_or, hw, List.length_append])) (ih (pre ++ [t]) (by simp [hpre]) (by simpa only [voL, hv, addAll] using he))
    | cons v vs =>
      rw [hv] at hc hl hF1
      refine loopN_k fun K1 hK1 => ?_
      unfold ac44_l1
      (repeat' (first|((first|(with_reducible refine qqV fun C hC=>?_)|(with_reducible refine qqW fun C hC=>?_)|((with_reducible intro C hC);(with_reducible refine qqX ?_)));(first|(simp only [go_sem, hlt, hat, cells_enc, pcells_enc, Ty.tc, encI_len];(first|((with_reducible apply ACall.pure0 [] (hc));(focus (exact vwA))))));(simp only [go_sem, hlt, hat, cells_enc, pcells_enc, Ty.tc, encI_len]);((with_reducible first|refine finA hC ?_|refine finD hC ?_);clear hC C))|((with_reducible first|refine qqT fun C hC=>?_|refine qqU fun C hC=>?_|intro C hC);simp only [go_sem, hlt, hat, cells_enc, pcells_enc, Ty.tc, encI_len];((with_reducible first|refine finA hC ?_|refine finD hC ?_);clear hC C))|(with_reducible first|refine qqA fun K hK=>?_|refine qqB fun K hK=>?_|refine qqC fun K hK=>?_|(refine qqD ?_;refine hK _ _ ?_;try clear hK K)|(refine qqE ?_;refine hK _ _ _ ?_ ?_;(focus kernel_rfl);try clear hK K)|(refine qqF ?_;refine hK _ _ ?_;try clear hK K)|refine qqG ?_|refine qqH ?_|refine qqI ?_|refine qqJ ?_|refine qqK ?_|(refine qqL ?_;try clear hK K)|(refine qqM ?_;try clear hK K)|refine qqN ?_|refine qqO ?_|(refine qqP ?_ ?_;focus decide))|((with_reducible first|apply qqQ|apply qqR|apply qqS);focus (simp only [go_sem, hlt, hat, cells_enc, pcells_enc, Ty.tc, encI_len];exact rfl))|(with_reducible first|refine gk_tt ?_|refine gk_ff ?_|refine ck_t ?_|refine ck_f ?_)|((with_reducible first|refine gk_tf ?_|refine gk_ft ?_|refine gk_u ?_|refine gk_u' ?_);first|(intro _ e;(first|rw [qqY] at e|rw [qqZ] at e);subst e)|(intro _ _ e e';(first|rw [qqY] at e|rw [qqZ] at e);subst e;subst e'))))
      refine awp_loop_k _ (LeB [0] (by refine ⟨?_, ?_, ?_⟩ <;> simp only [leFr, leFb, leHp, V.ren, V.renL, V.bd, V.bdL, allL, lt, Go.Ab.get, hget, List.map_cons, List.map_nil, List.length_cons, List.length_nil, List.length_append, List.getElem?_cons_zero, List.getElem?_cons_succ, List.getElem?_nil, Option.join_some, Option.join_none, List.getD_cons_zero, List.getD_cons_succ, List.getD_nil, Nat.reduceAdd, Nat.reduceLT, Nat.reduceEqDiff, Nat.zero_add, reduceIte, if_true, if_false, and_true, true_and, renL_vcells, allL_vcells, renL_pv, leBlk_some, eq_self, true_or, or_true, reduceCtorEq, false_or, c0])) (vin_nil k id ss v vs hl _ hF1 pre.length ss.length (.list 3 (encL ss)) ?_ rfl)
      (repeat' (first|((with_reducible first|refine qqT fun C hC=>?_|refine qqU fun C hC=>?_|intro C hC);simp only [go_sem];((with_reducible first|refine finA hC ?_|refine finD hC ?_);clear hC C))|(with_reducible first|refine qqA fun K hK=>?_|refine qqB fun K hK=>?_|refine qqC fun K hK=>?_|(refine qqD ?_;refine hK _ _ ?_;try clear hK K)|(refine qqE ?_;refine hK _ _ _ ?_ ?_;(focus kernel_rfl);try clear hK K)|(refine qqF ?_;refine hK _ _ ?_;try clear hK K)|refine qqG ?_|refine qqH ?_|refine qqI ?_|refine qqJ ?_|refine qqK ?_|(refine qqL ?_;try clear hK K)|(refine qqM ?_;try clear hK K)|refine qqN ?_|refine qqO ?_|(refine qqP ?_ ?_;focus decide))|((with_reducible first|apply qqQ|apply qqR|apply qqS);focus (simp only [go_sem];exact rfl))|(with_reducible first|refine gk_tt ?_|refine gk_ff ?_|refine ck_t ?_|refine ck_f ?_)|((with_reducible first|refine gk_tf ?_|refine gk_ft ?_|refine gk_u ?_|refine gk_u' ?_);first|(intro _ e;(first|rw [qqY] at e|rw [qqZ] at e);subst e)|(intro _ _ e e';(first|rw [qqY] at e|rw [qqZ] at e);subst e;subst e'))))
      refine hK1 _ _ _ _ _ (LeB [0, 1] (by refine ⟨?_, ?_, ?_⟩ <;> simp only [leFr, leFb, leHp, V.ren, V.renL, V.bd, V.bdL, allL, lt, Go.Ab.get, hget, List.map_cons, List.map_nil, List.length_cons, List.length_nil, List.length_append, List.getElem?_cons_zero, List.getElem?_cons_succ, List.getElem?_nil, Option.join_some, Option.join_none, List.getD_cons_zero, List.getD_cons_succ, List.getD_nil, Nat.reduceAdd, Nat.reduceLT, Nat.reduceEqDiff, Nat.zero_add, reduceIte, if_true, if_false, and_true, true_and, renL_vcells, allL_vcells, renL_pv, leBlk_some, eq_self, true_or, or_true, reduceCtorEq, false_or, hw, List.length_append, renL_cI, allL_cI])) (rows rest (pre ++ [t]) (addAll [] (v :: vs)) (by simp [hpre]) (by simpa only [voL, hv] using he))
theorem nds_mem : ∀ {ss : List Ty} {t : Ty}, t ∈ ss → nds t ≤ ndsL ss
  | [], _, h => by cases h
  | s :: ss, t, h => by
    rcases List.mem_cons.1 h with rfl | h
    · simp [ndsL]
    · have := nds_mem h; simp only [ndsL]; omega
set_option maxHeartbeats 4000000 in
theorem vars_ok : ∀ (t : Ty), nds t ≤ 1000000000 → PCall Try.prog 44 [t.enc] (.list 1 (encI (vo t)))
  | .mk k id ss, hn => by
    have hnm : ∀ t ∈ ss, nds t ≤ 1000000000 := fun t ht => by have := nds_mem ht; simp only [nds] at hn; omega
    have hrec : ∀ t ∈ ss, PCall Try.prog 44 [t.enc] (.list 1 (encI (vo t))) := fun t ht => vars_ok t (hnm t ht)
    have hlen : ∀ t ∈ ss, (vo t).length ≤ 1099511627776 := fun t ht => by have := vo_len t; have := hnm t ht; omega
    have hF : (voL ss []).length ≤ 1099511627776 := by have := voL_len ss []; simp only [nds] at hn; simp at this; omega
    refine PCall.intro' (ps := [.list 1 (encI (vo (.mk k id ss)))]) fn44 (by simp) fun hok => ?_
    have hss : ss.length ≤ 1099511627776 := by
      simp only [PV.okL, Ty.enc, PV.ok, encL_len, big] at hok; exact hok.1.2.2.1.1
    clear hok
    unfold ac44
    simp only [argFr, Ty.enc]
    cases hk1 : (k == 1) with
    | true =>
      have hR : vo (.mk k id ss) = [id] := by simp [vo, hk1]
      rw [hR]
      (repeat' (first|((with_reducible first|refine qqT fun C hC=>?_|refine qqU fun C hC=>?_|intro C hC);simp only [go_sem, hk1];((with_reducible first|refine finA hC ?_|refine finD hC ?_);clear hC C))|(with_reducible first|refine qqA fun K hK=>?_|refine qqB fun K hK=>?_|refine qqC fun K hK=>?_|(refine qqD ?_;refine hK _ _ ?_;try clear hK K)|(refine qqE ?_;refine hK _ _ _ ?_ ?_;(focus kernel_rfl);try clear hK K)|(refine qqF ?_;refine hK _ _ ?_;try clear hK K)|refine qqG ?_|refine qqH ?_|refine qqI ?_|refine qqJ ?_|refine qqK ?_|(refine qqL ?_;try clear hK K)|(refine qqM ?_;try clear hK K)|refine qqN ?_|refine qqO ?_|(refine qqP ?_ ?_;focus decide))|((with_reducible first|apply qqQ|apply qqR|apply qqS);focus (simp only [go_sem, hk1];exact rfl))|(with_reducible first|refine gk_tt ?_|refine gk_ff ?_|refine ck_t ?_|refine ck_f ?_)|((with_reducible first|refine gk_tf ?_|refine gk_ft ?_|refine gk_u ?_|refine gk_u' ?_);first|(intro _ e;(first|rw [qqY] at e|rw [qqZ] at e);subst e)|(intro _ _ e e';(first|rw [qqY] at e|rw [qqZ] at e);subst e;subst e'))))
      refine retP_ret [1] rfl (.cons _ _ _ _ ?_ .nil)
      exact row_ii (xs := [id]) (by decide) rfl
    | false =>
      have hR : vo (.mk k id ss) = voL ss [] := by simp [vo, hk1]
      rw [hR]
      (repeat' (first|((with_reducible first|refine qqT fun C hC=>?_|refine qqU fun C hC=>?_|intro C hC);simp only [go_sem, hk1, encL_len];((with_reducible first|refine finA hC ?_|refine finD hC ?_);clear hC C))|(with_reducible first|refine qqA fun K hK=>?_|refine qqB fun K hK=>?_|refine qqC fun K hK=>?_|(refine qqD ?_;refine hK _ _ ?_;try clear hK K)|(refine qqE ?_;refine hK _ _ _ ?_ ?_;(focus kernel_rfl);try clear hK K)|(refine qqF ?_;refine hK _ _ ?_;try clear hK K)|refine qqG ?_|refine qqH ?_|refine qqI ?_|refine qqJ ?_|refine qqK ?_|(refine qqL ?_;try clear hK K)|(refine qqM ?_;try clear hK K)|refine qqN ?_|refine qqO ?_|(refine qqP ?_ ?_;focus decide))|((with_reducible first|apply qqQ|apply qqR|apply qqS);focus (simp only [go_sem, hk1, encL_len];exact rfl))|(with_reducible first|refine gk_tt ?_|refine gk_ff ?_|refine ck_t ?_|refine ck_f ?_)|((with_reducible first|refine gk_tf ?_|refine gk_ft ?_|refine gk_u ?_|refine gk_u' ?_);first|(intro _ e;(first|rw [qqY] at e|rw [qqZ] at e);subst e)|(intro _ _ e e';(first|rw [qqY] at e|rw [qqZ] at e);subst e;subst e'))))
      refine awp_loop_k _ (LeB [0] (by refine ⟨?_, ?_, ?_⟩ <;> simp only [leFr, leFb, leHp, V.ren, V.renL, V.bd, V.bdL, allL, lt, Go.Ab.get, hget, List.map_cons, List.map_nil, List.length_cons, List.length_nil, List.length_append, List.getElem?_cons_zero, List.getElem?_cons_succ, List.getElem?_nil, Option.join_some, Option.join_none, List.getD_cons_zero, List.getD_cons_succ, List.getD_nil, Nat.reduceAdd, Nat.reduceLT, Nat.reduceEqDiff, Nat.zero_add, reduceIte, if_true, if_false, and_true, true_and, renL_vcells, allL_vcells, renL_pv, leBlk_some, eq_self, true_or, or_true, reduceCtorEq, false_or, c0])) (vout_nil k id hss hrec hlen _ hF hK ss [] rfl rfl)
termination_by t => SizeOf.sizeOf t
decreasing_by
  have := List.sizeOf_lt_of_mem ht
  simp only [Ty.mk.sizeOf_spec]; omega
end Go.Proofs.Ytiediojibljpiaa
