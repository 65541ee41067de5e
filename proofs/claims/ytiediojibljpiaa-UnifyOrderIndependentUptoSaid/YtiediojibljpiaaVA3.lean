/- A3: joined from X1 X2. -/
import Derived.Test.YtiediojibljpiaaVFnU
import Derived.Test.YtiediojibljpiaaVA2
/- The reference's operations on types: the check that they work, equality, size. -/
set_option maxRecDepth 10000
set_option linter.unusedSimpArgs false
set_option linter.unusedVariables false
namespace Go.Proofs.Ytiediojibljpiaa
open Go Go.Ab
set_option maxHeartbeats 4000000 in
theorem equal2_ok : ∀ a b : Ty, PCall Try.prog 45 [a.enc, b.enc] (bb (eqT a b))
  | .mk k i ss, .mk k' i' us => by
    have hrec : ∀ t ∈ ss, ∀ u, PCall Try.prog 45 [t.enc, u.enc] (bb (eqT t u)) := fun t ht u => equal2_ok t u
    refine PCall.intro' (ps := [bb (eqT (.mk k i ss) (.mk k' i' us))]) fn45 (by simp) fun hok => ?_
    have hss : ss.length ≤ 1099511627776 := by
      simp only [PV.okL, Ty.enc, PV.ok, encL_len, big] at hok; exact hok.1.2.2.1.1
    clear hok
    have he0 := eqT_eq (.mk k i ss) (.mk k' i' us)
    have he : eqT (.mk k i ss) (.mk k' i' us) = if k == k' then if i == i' then eqTL ss us else false else false := he0
    rw [he]
    clear he he0
    unfold ac45
    simp only [argFr]
    cases h1 : (k == k') with
    | false =>
      (repeat' (first|((with_reducible first|refine qqT fun C hC=>?_|refine qqU fun C hC=>?_|intro C hC);simp only [go_sem, cells_enc, Ty.tc, Ty.kd, Ty.id, Ty.args, bne, h1, encL_len];((with_reducible first|refine finA hC ?_|refine finD hC ?_);clear hC C))|(with_reducible first|refine qqA fun K hK=>?_|refine qqB fun K hK=>?_|refine qqC fun K hK=>?_|(refine qqD ?_;refine hK _ _ ?_;try clear hK K)|(refine qqE ?_;refine hK _ _ _ ?_ ?_;(focus kernel_rfl);try clear hK K)|(refine qqF ?_;refine hK _ _ ?_;try clear hK K)|refine qqG ?_|refine qqH ?_|refine qqI ?_|refine qqJ ?_|refine qqK ?_|(refine qqL ?_;try clear hK K)|(refine qqM ?_;try clear hK K)|refine qqN ?_|refine qqO ?_|(refine qqP ?_ ?_;focus decide))|((with_reducible first|apply qqQ|apply qqR|apply qqS);focus (simp only [go_sem, cells_enc, Ty.tc, Ty.kd, Ty.id, Ty.args, bne, h1, encL_len];exact rfl))|(with_reducible first|refine gk_tt ?_|refine gk_ff ?_|refine ck_t ?_|refine ck_f ?_)|((with_reducible first|refine gk_tf ?_|refine gk_ft ?_|refine gk_u ?_|refine gk_u' ?_);first|(intro _ e;(first|rw [qqY] at e|rw [qqZ] at e);subst e)|(intro _ _ e e';(first|rw [qqY] at e|rw [qqZ] at e);subst e;subst e'))))
      (refine retP_ret (List.range 40) rfl ?_; exact vwA)
    | true =>
    cases h2 : (i == i') with
    | false =>
      (repeat' (first|((with_reducible first|refine qqT fun C hC=>?_|refine qqU fun C hC=>?_|intro C hC);simp only [go_sem, cells_enc, Ty.tc, Ty.kd, Ty.id, Ty.args, bne, h1, h2, encL_len];((with_reducible first|refine finA hC ?_|refine finD hC ?_);clear hC C))|(with_reducible first|refine qqA fun K hK=>?_|refine qqB fun K hK=>?_|refine qqC fun K hK=>?_|(refine qqD ?_;refine hK _ _ ?_;try clear hK K)|(refine qqE ?_;refine hK _ _ _ ?_ ?_;(focus kernel_rfl);try clear hK K)|(refine qqF ?_;refine hK _ _ ?_;try clear hK K)|refine qqG ?_|refine qqH ?_|refine qqI ?_|refine qqJ ?_|refine qqK ?_|(refine qqL ?_;try clear hK K)|(refine qqM ?_;try clear hK K)|refine qqN ?_|refine qqO ?_|(refine qqP ?_ ?_;focus decide))|((with_reducible first|apply qqQ|apply qqR|apply qqS);focus (simp only [go_sem, cells_enc, Ty.tc, Ty.kd, Ty.id, Ty.args, bne, h1, h2, encL_len];exact rfl))|(with_reducible first|refine gk_tt ?_|refine gk_ff ?_|refine ck_t ?_|refine ck_f ?_)|((with_reducible first|refine gk_tf ?_|refine gk_ft ?_|refine gk_u ?_|refine gk_u' ?_);first|(intro _ e;(first|rw [qqY] at e|rw [qqZ] at e);subst e)|(intro _ _ e e';(first|rw [qqY] at e|rw [qqZ] at e);subst e;subst e'))))
      (refine retP_ret (List.range 40) rfl ?_; exact vwA)
    | true =>
    cases hlen : ((ss.length : Int) == (us.length : Int)) with
    | false =>
      have hl := eqTL_len (xs := ss) (ys := us) (by simp only [bne, hlen, Bool.not_false])
      (repeat' (first|((with_reducible first|refine qqT fun C hC=>?_|refine qqU fun C hC=>?_|intro C hC);simp only [go_sem, cells_enc, Ty.tc, Ty.kd, Ty.id, Ty.args, bne, h1, h2, encL_len, hlen];((with_reducible first|refine finA hC ?_|refine finD hC ?_);clear hC C))|(with_reducible first|refine qqA fun K hK=>?_|refine qqB fun K hK=>?_|refine qqC fun K hK=>?_|(refine qqD ?_;refine hK _ _ ?_;try clear hK K)|(refine qqE ?_;refine hK _ _ _ ?_ ?_;(focus kernel_rfl);try clear hK K)|(refine qqF ?_;refine hK _ _ ?_;try clear hK K)|refine qqG ?_|refine qqH ?_|refine qqI ?_|refine qqJ ?_|refine qqK ?_|(refine qqL ?_;try clear hK K)|(refine qqM ?_;try clear hK K)|refine qqN ?_|refine qqO ?_|(refine qqP ?_ ?_;focus decide))|((with_reducible first|apply qqQ|apply qqR|apply qqS);focus (simp only [go_sem, cells_enc, Ty.tc, Ty.kd, Ty.id, Ty.args, bne, h1, h2, encL_len, hlen];exact rfl))|(with_reducible first|refine gk_tt ?_|refine gk_ff ?_|refine ck_t ?_|refine ck_f ?_)|((with_reducible first|refine gk_tf ?_|refine gk_ft ?_|refine gk_u ?_|refine gk_u' ?_);first|(intro _ e;(first|rw [qqY] at e|rw [qqZ] at e);subst e)|(intro _ _ e e';(first|rw [qqY] at e|rw [qqZ] at e);subst e;subst e'))))
      (refine retP_ret (List.range 40) rfl ?_; (try simp only [hl, if_true, if_false, Bool.false_eq_true, Bool.not_true, Bool.not_false]); exact vwA)
    | true =>
      have hl : ss.length = us.length := by
        have : (ss.length : Int) = us.length := by simpa using hlen
        omega
      (repeat' (first|((with_reducible first|refine qqT fun C hC=>?_|refine qqU fun C hC=>?_|intro C hC);simp only [go_sem, cells_enc, Ty.tc, Ty.kd, Ty.id, Ty.args, bne, h1, h2, encL_len, hlen];((with_reducible first|refine finA hC ?_|refine finD hC ?_);clear hC C))|(with_reducible first|refine qqA fun K hK=>?_|refine qqB fun K hK=>?_|refine qqC fun K hK=>?_|(refine qqD ?_;refine hK _ _ ?_;try clear hK K)|(refine qqE ?_;refine hK _ _ _ ?_ ?_;(focus kernel_rfl);try clear hK K)|(refine qqF ?_;refine hK _ _ ?_;try clear hK K)|refine qqG ?_|refine qqH ?_|refine qqI ?_|refine qqJ ?_|refine qqK ?_|(refine qqL ?_;try clear hK K)|(refine qqM ?_;try clear hK K)|refine qqN ?_|refine qqO ?_|(refine qqP ?_ ?_;focus decide))|((with_reducible first|apply qqQ|apply qqR|apply qqS);focus (simp only [go_sem, cells_enc, Ty.tc, Ty.kd, Ty.id, Ty.args, bne, h1, h2, encL_len, hlen];exact rfl))|(with_reducible first|refine gk_tt ?_|refine gk_ff ?_|refine ck_t ?_|refine ck_f ?_)|((with_reducible first|refine gk_tf ?_|refine gk_ft ?_|refine gk_u ?_|refine gk_u' ?_);first|(intro _ e;(first|rw [qqY] at e|rw [qqZ] at e);subst e)|(intro _ _ e e';(first|rw [qqY] at e|rw [qqZ] at e);subst e;subst e'))))
      simp only [if_true]
      have rows : ∀ (rest rest' pre pre' : List Ty), pre ++ rest = ss → pre' ++ rest' = us → pre.length = pre'.length → eqTL ss us = eqTL rest rest' → loopN (awp Try.prog ac45_l0) (catch_ 0 (thn K (retP [RV.tmp 4] [bb (eqTL ss us)]))) (rest.length + 1)
         [(30, .pv (ii pre.length)), (29, .pv (ii ss.length)), (3, .ptr 1 0 0), (2, .ptr 0 0 0)]
         [some ⟨false, 29, 3, [[.pv (ii k), .pv (ii i), .pv (.list 3 (encL ss))]], none⟩, some ⟨false, 29, 3, [[.pv (ii k'), .pv (ii i'), .pv (.list 3 (encL us))]], none⟩] := by
        intro rest
        induction rest with
        | nil =>
          intro rest' pre pre' hpre hpre' hll he
          have hpre : pre = ss := by simpa using hpre
          have hr : rest' = [] := by
            have h1 := congrArg List.length hpre'
            simp only [List.length_append] at h1
            subst hpre
            exact List.eq_nil_of_length_eq_zero (by omega)
          subst hpre; subst hr
          refine loopN_k fun K1 hK1 => ?_
          unfold ac45_l0
          (repeat' (first|((with_reducible first|refine qqT fun C hC=>?_|refine qqU fun C hC=>?_|intro C hC);simp only [go_sem, lt_end];((with_reducible first|refine finA hC ?_|refine finD hC ?_);clear hC C))|(with_reducible first|refine qqA fun K hK=>?_|refine qqB fun K hK=>?_|refine qqC fun K hK=>?_|(refine qqD ?_;refine hK _ _ ?_;try clear hK K)|(refine qqE ?_;refine hK _ _ _ ?_ ?_;(focus kernel_rfl);try clear hK K)|(refine qqF ?_;refine hK _ _ ?_;try clear hK K)|refine qqG ?_|refine qqH ?_|refine qqI ?_|refine qqJ ?_|refine qqK ?_|(refine qqL ?_;try clear hK K)|(refine qqM ?_;try clear hK K)|refine qqN ?_|refine qqO ?_|(refine qqP ?_ ?_;focus decide))|((with_reducible first|apply qqQ|apply qqR|apply qqS);focus (simp only [go_sem, lt_end];exact rfl))|(with_reducible first|refine gk_tt ?_|refine gk_ff ?_|refine ck_t ?_|refine ck_f ?_)|((with_reducible first|refine gk_tf ?_|refine gk_ft ?_|refine gk_u ?_|refine gk_u' ?_);first|(intro _ e;(first|rw [qqY] at e|rw [qqZ] at e);subst e)|(intro _ _ e e';(first|rw [qqY] at e|rw [qqZ] at e);subst e;subst e'))))
          rw [he]
          (refine retP_ret (List.range 40) rfl ?_; (try simp only [eqTL, if_true, if_false, Bool.false_eq_true, Bool.not_true, Bool.not_false]); exact vwA)
        | cons t rest ih =>
          intro rest' pre pre' hpre hpre' hll he
          cases rest' with
          | nil =>
            have h1 := congrArg List.length hpre
            have h2 := congrArg List.length hpre'
            simp at h1 h2; omega
          | cons u rest' =>
          have hlt : decide ((pre.length : Int) < (ss.length : Int)) = true := by subst hpre; exact lt_app _ _ _
          have hat : (encL ss)[pre.length]? = some t.enc := by subst hpre; exact encL_at _ _ _
          have hat' : (encL us)[pre.length]? = some u.enc := by rw [hll]; subst hpre'; exact encL_at _ _ _
          have hb : pre.length + 1 ≤ big := by have := congrArg List.length hpre; simp at this; unfold big; omega
          have hc := hrec t (by subst hpre; simp) u
          refine loopN_k fun K1 hK1 => ?_
          unfold ac45_l0
          cases hpt : eqT t u with
          | false =>
            rw [hpt] at hc
            (repeat' (first|((first|(with_reducible refine qqV fun C hC=>?_)|(with_reducible refine qqW fun C hC=>?_)|((with_reducible intro C hC);(with_reducible refine qqX ?_)));(first|(simp only [go_sem, hlt, hat, hat', cells_enc, pcells_enc, Ty.tc];(first|((with_reducible apply ACall.pure0 [] (hc));(focus (exact vwA))))));(simp only [go_sem, hlt, hat, hat', cells_enc, pcells_enc, Ty.tc]);((with_reducible first|refine finA hC ?_|refine finD hC ?_);clear hC C))|((with_reducible first|refine qqT fun C hC=>?_|refine qqU fun C hC=>?_|intro C hC);simp only [go_sem, hlt, hat, hat', cells_enc, pcells_enc, Ty.tc];((with_reducible first|refine finA hC ?_|refine finD hC ?_);clear hC C))|(with_reducible first|refine qqA fun K hK=>?_|refine qqB fun K hK=>?_|refine qqC fun K hK=>?_|(refine qqD ?_;refine hK _ _ ?_;try clear hK K)|(refine qqE ?_;refine hK _ _ _ ?_ ?_;(focus kernel_rfl);try clear hK K)|(refine qqF ?_;refine hK _ _ ?_;try clear hK K)|refine qqG ?_|refine qqH ?_|refine qqI ?_|refine qqJ ?_|refine qqK ?_|(refine qqL ?_;try clear hK K)|(refine qqM ?_;try clear hK K)|refine qqN ?_|refine qqO ?_|(refine qqP ?_ ?_;focus decide))|((with_reducible first|apply qqQ|apply qqR|apply qqS);focus (simp only [go_sem, hlt, hat, hat', cells_enc, pcells_enc, Ty.tc];exact rfl))|(with_reducible first|refine gk_tt ?_|refine gk_ff ?_|refine ck_t ?_|refine ck_f ?_)|((with_reducible first|refine gk_tf ?_|refine gk_ft ?_|refine gk_u ?_|refine gk_u' ?_);first|(intro _ e;(first|rw [qqY] at e|rw [qqZ] at e);subst e)|(intro _ _ e e';(first|rw [qqY] at e|rw [qqZ] at e);subst e;subst e'))))
            simp only [eqTL, hpt, Bool.false_eq_true, if_false] at he
            rw [he]
            (refine retP_ret (List.range 40) rfl ?_; exact vwA)
          | true =>
            rw [hpt] at hc
            (repeat' (first|((first|(with_reducible refine qqV fun C hC=>?_)|(with_reducible refine qqW fun C hC=>?_)|((with_reducible intro C hC);(with_reducible refine qqX ?_)));(first|(simp only [go_sem, hlt, hat, hat', cells_enc, pcells_enc, Ty.tc];(first|((with_reducible apply ACall.pure0 [] (hc));(focus (exact vwA))))));(simp only [go_sem, hlt, hat, hat', cells_enc, pcells_enc, Ty.tc]);((with_reducible first|refine finA hC ?_|refine finD hC ?_);clear hC C))|((with_reducible first|refine qqT fun C hC=>?_|refine qqU fun C hC=>?_|intro C hC);simp only [go_sem, hlt, hat, hat', cells_enc, pcells_enc, Ty.tc];((with_reducible first|refine finA hC ?_|refine finD hC ?_);clear hC C))|(with_reducible first|refine qqA fun K hK=>?_|refine qqB fun K hK=>?_|refine qqC fun K hK=>?_|(refine qqD ?_;refine hK _ _ ?_;try clear hK K)|(refine qqE ?_;refine hK _ _ _ ?_ ?_;(focus kernel_rfl);try clear hK K)|(refine qqF ?_;refine hK _ _ ?_;try clear hK K)|refine qqG ?_|refine qqH ?_|refine qqI ?_|refine qqJ ?_|refine qqK ?_|(refine qqL ?_;try clear hK K)|(refine qqM ?_;try clear hK K)|refine qqN ?_|refine qqO ?_|(refine qqP ?_ ?_;focus decide))|((with_reducible first|apply qqQ|apply qqR|apply qqS);focus (simp only [go_sem, hlt, hat, hat', cells_enc, pcells_enc, Ty.tc];exact rfl))|(with_reducible first|refine gk_tt ?_|refine gk_ff ?_|refine ck_t ?_|refine ck_f ?_)|((with_reducible first|refine gk_tf ?_|refine gk_ft ?_|refine gk_u ?_|refine gk_u' ?_);first|(intro _ e;(first|rw [qqY] at e|rw [qqZ] at e);subst e)|(intro _ _ e e';(first|rw [qqY] at e|rw [qqZ] at e);subst e;subst e'))))
            have hw := wrapS (n := pre.length) (by unfold big at hb; omega)
            refine qqF ?_
            refine hK1 _ _ _ _ _ (LeB [0, 1] (by refine ⟨?_, ?_, ?_⟩ <;> simp only [leFr, leFb, leHp, V.ren, V.renL, V.bd, V.bdL, allL, lt, Go.Ab.get, hget, List.map_cons, List.map_nil, List.length_cons, List.length_nil, List.length_append, List.getElem?_cons_zero, List.getElem?_cons_succ, List.getElem?_nil, Option.join_some, Option.join_none, List.getD_cons_zero, List.getD_cons_succ, List.getD_nil, Nat.reduceAdd, Nat.reduceLT, Nat.reduceEqDiff, Nat.zero_add, reduceIte, if_true, if_false, and_true, true_and, renL_vcells, allL_vcells, renL_pv, leBlk_some, eq_self, true_or, or_true, reduceCtorEq, false_or, hw, List.length_append])) (ih rest' (pre ++ [t]) (pre' ++ [u]) (by simp [hpre]) (by simp [hpre']) (by simp [hll]) (by simpa [eqTL, hpt] using he))
      refine awp_loop_k _ (LeB [0, 1] (by refine ⟨?_, ?_, ?_⟩ <;> simp only [leFr, leFb, leHp, V.ren, V.renL, V.bd, V.bdL, allL, lt, Go.Ab.get, hget, List.map_cons, List.map_nil, List.length_cons, List.length_nil, List.length_append, List.getElem?_cons_zero, List.getElem?_cons_succ, List.getElem?_nil, Option.join_some, Option.join_none, List.getD_cons_zero, List.getD_cons_succ, List.getD_nil, Nat.reduceAdd, Nat.reduceLT, Nat.reduceEqDiff, Nat.zero_add, reduceIte, if_true, if_false, and_true, true_and, renL_vcells, allL_vcells, renL_pv, leBlk_some, eq_self, true_or, or_true, reduceCtorEq, false_or, c0])) (rows ss us [] [] rfl rfl rfl rfl)
termination_by t => SizeOf.sizeOf t
decreasing_by
  have := List.sizeOf_lt_of_mem ht
  simp only [Ty.mk.sizeOf_spec]; omega
end Go.Proofs.Ytiediojibljpiaa
/- The reference's operations on types: size, well-formedness, the error. -/
set_option maxRecDepth 10000
set_option linter.unusedSimpArgs false
set_option linter.unusedVariables false
namespace Go.Proofs.Ytiediojibljpiaa
open Go Go.Ab
mutual
def dp : Ty → Int
  | .mk _ _ ss => dpL ss 0 + 1
def dpL : List Ty → Int → Int
  | [], d => d
  | t :: ts, d => dpL ts (if dp t > d then dp t else d)
end
mutual
theorem dp_bd : ∀ t : Ty, 1 ≤ dp t ∧ dp t ≤ nds t
  | .mk k id ss => by
    have := dpL_bd ss 0 (by omega)
    simp only [dp, nds]; omega
theorem dpL_bd : ∀ (ts : List Ty) (d : Int), 0 ≤ d → 0 ≤ dpL ts d ∧ dpL ts d ≤ d + ndsL ts
  | [], d, h => by simp only [dpL, ndsL]; omega
  | t :: ts, d, h => by
    have h1 := dp_bd t
    have h2 := dpL_bd ts (if dp t > d then dp t else d) (by split <;> omega)
    simp only [dpL, ndsL]
    split at h2 <;> rename_i hd
    · simp only [hd, if_true]; omega
    · simp only [hd, if_false]; omega
end
mutual
theorem msr_exact : ∀ (t : Ty) (L : Int), (nds t : Int) ≤ L → msr t L = ((nds t : Int), dp t)
  | .mk k id ss, L, h => by
    simp only [nds] at h
    have := msrL_exact ss L 1 0 (by omega)
    simp only [msr, this, nds, dp]
    congr 1; omega
theorem msrL_exact : ∀ (ts : List Ty) (L s d : Int), s + (ndsL ts : Int) ≤ L → msrL ts L s d = (s + (ndsL ts : Int), dpL ts d)
  | [], L, s, d, h => by simp [msrL, ndsL, dpL]
  | t :: ts, L, s, d, h => by
    simp only [ndsL] at h
    have h1 : ¬ s > L := by omega
    have h2 := msr_exact t (L - s) (by omega)
    have h3 := msrL_exact ts L (s + nds t) (if dp t > d then dp t else d) (by omega)
    simp only [msrL, h1, decide_false, Bool.false_eq_true, if_false, h2, h3, ndsL, dpL]
    congr 1; omega
end
mutual
theorem msr_big : ∀ (t : Ty) (L : Int), 0 ≤ L → (nds t : Int) > L → (msr t L).1 > L
  | .mk k id ss, L, h0, h => by
    simp only [nds] at h
    simp only [msr]
    exact msrL_big ss L 1 0 h0 (by omega)
theorem msrL_big : ∀ (ts : List Ty) (L s d : Int), 0 ≤ L → s + (ndsL ts : Int) > L → (msrL ts L s d).1 > L
  | [], L, s, d, h0, h => by simp only [msrL, ndsL] at h ⊢; omega
  | t :: ts, L, s, d, h0, h => by
    simp only [msrL]
    by_cases h1 : s > L
    · simp only [h1, decide_true, if_true]
    · simp only [h1, decide_false, Bool.false_eq_true, if_false]
      refine msrL_big ts L _ _ h0 ?_
      simp only [ndsL] at h
      by_cases h2 : (nds t : Int) ≤ L - s
      · rw [msr_exact t (L - s) h2]; simp only; omega
      · have := msr_big t (L - s) (by omega) (by omega)
        omega
end
def errT (t : Ty) : Int := if (if decide ((nds t : Int) > 100) then true else decide (dp t > 12)) then 2 else if !wfT t then 3 else 0
theorem val_err (t : Ty) : valT t = errT t := by
  unfold valT errT
  by_cases h : (nds t : Int) ≤ 100
  · rw [msr_exact t 100 h]
  · have h1 := msr_big t 100 (by omega) (by omega)
    have h2 : (nds t : Int) > 100 := by omega
    simp only [h1, h2, decide_true, if_true]
theorem w6 {n : Int} (h : -1000000000000000 ≤ n ∧ n ≤ 1000000000000000) : IntKind.i64.wrap n = n := by rw [IntWalk.i64_in _ (by omega)]
end Go.Proofs.Ytiediojibljpiaa
