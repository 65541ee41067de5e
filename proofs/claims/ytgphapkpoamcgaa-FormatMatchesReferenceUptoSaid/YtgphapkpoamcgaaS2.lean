/- Types: equality. -/
import Derived.Test.YtgphapkpoamcgaaS2a
set_option maxRecDepth 10000
set_option linter.unusedSimpArgs false
set_option linter.unusedVariables false
namespace Go.Proofs.Ytgphapkpoamcgaa
open Go Go.Ab
mutual
def eqT : Ty → Ty → Bool
  | .mk k i ss, .mk k' i' ss' => if k == k' then if i == i' then eqTL ss ss' else false else false
def eqTL : List Ty → List Ty → Bool
  | [], [] => true
  | a :: xs, b :: ys => if eqT a b then eqTL xs ys else false
  | [], _ :: _ => false
  | _ :: _, [] => false
end
mutual
theorem eqT_iff : ∀ a b : Ty, eqT a b = true ↔ a = b
  | .mk k i ss, .mk k' i' ss' => by
    simp only [eqT, Ty.mk.injEq]
    by_cases h : k = k'
    · by_cases h2 : i = i'
      · simp [h, h2, eqTL_iff ss ss']
      · simp [h, h2]
    · simp [h]
theorem eqTL_iff : ∀ a b : List Ty, eqTL a b = true ↔ a = b
  | [], [] => by simp [eqTL]
  | a :: xs, b :: ys => by
    simp only [eqTL, List.cons.injEq]
    by_cases h : eqT a b = true
    · have e := (eqT_iff a b).1 h
      rw [if_pos h, eqTL_iff xs ys]; simp [e]
    · have : ¬ a = b := fun e => h ((eqT_iff a b).2 e)
      simp [h, this]
  | [], b :: ys => by simp [eqTL]
  | a :: xs, [] => by simp [eqTL]
end
theorem eqTL_len {xs ys : List Ty} (h : ((xs.length : Int) != (ys.length : Int)) = true) : eqTL xs ys = false := by
  cases he : eqTL xs ys with
  | false => rfl
  | true => have := (eqTL_iff xs ys).1 he; subst this; simp at h
set_option maxHeartbeats 1000000 in
theorem eqf_ok (xs ys : List Ty) (hp : ∀ a ∈ xs, ∀ b : Ty, PCall Try.prog 15 [a.enc, b.enc] (bb (eqT a b))) : PCall Try.prog 65 [.list 3 (encL xs), .list 3 (encL ys), .fn 15 []] (bb (eqTL xs ys)) := by
  refine PCall.intro' (ps := [bb (eqTL xs ys)]) fn65 (by simp) fun hok => ?_
  have hss : xs.length ≤ 1099511627776 := by
    simp only [PV.okL, PV.ok, encL_len, big] at hok; exact hok.1.1
  clear hok
  unfold ac65
  simp only [argFr]
  cases hlen : ((xs.length : Int) != (ys.length : Int)) with
  | true =>
    (repeat' (first | ((with_reducible refine aops_cons' fun C hC => ?_); simp only [go_sem, encL_len, hlen]; (with_reducible refine finA hC ?_); clear hC C) | ((with_reducible refine aopsD_cons' fun C hC => ?_); simp only [go_sem, encL_len, hlen]; (with_reducible refine finD hC ?_); clear hC C) | ((with_reducible refine awp_seq_k fun K hK => ?_)) | ((with_reducible refine awp_reg_k fun K hK => ?_)) | ((with_reducible refine awp_dreg_k fun K hK => ?_)) | ((with_reducible refine aops_nil ?_); (with_reducible refine hK _ _ ?_); try clear hK K) | ((with_reducible refine aopsD_nil ?_); (with_reducible refine hK _ _ _ ?_ ?_); (focus (kernel_rfl)); try clear hK K) | ((with_reducible refine thn_normal ?_); (with_reducible refine hK _ _ ?_); try clear hK K) | ((with_reducible refine catch_normal ?_)) | ((with_reducible refine awp_skip_k ?_)) | ((with_reducible refine awp_ret_k ?_)) | ((with_reducible refine awp_exit_k ?_)) | ((with_reducible refine awp_block_k ?_)) | ((with_reducible refine thn_exit ?_); try clear hK K) | ((with_reducible refine thn_ret ?_); try clear hK K) | ((with_reducible refine catch_ret ?_)) | ((with_reducible refine catch_exit ?_)) | ((with_reducible refine catch_other ?_ ?_); (focus (decide))) | ((with_reducible apply aops_guard'); (focus (simp only [go_sem, encL_len, hlen]; exact rfl))) | ((with_reducible apply aopsD_guard'); (focus (simp only [go_sem, encL_len, hlen]; exact rfl))) | (first | (with_reducible refine gk_tt ?_) | (with_reducible refine gk_ff ?_)) | ((with_reducible intro C hC); simp only [go_sem, encL_len, hlen]; (first | (with_reducible refine finA hC ?_); clear hC C | (with_reducible refine finD hC ?_); clear hC C)) | ((first | (with_reducible refine gk_tf ?_) | (with_reducible refine gk_ft ?_) | (with_reducible refine gk_u ?_) | (with_reducible refine gk_u' ?_)); first | (intro _ e; (first | rw [put_some] at e | rw [put_none] at e); subst e) | (intro _ _ e e'; (first | rw [put_some] at e | rw [put_none] at e); subst e; subst e')) | ((with_reducible apply awp_cond_g); (focus (simp only [go_sem, encL_len, hlen]; exact rfl))) | (with_reducible refine ck_t ?_) | (with_reducible refine ck_f ?_)))
    rw [eqTL_len hlen]
    (refine retP_ret (List.range 40) rfl ?_; exact vwA)
  | false =>
    have hl : xs.length = ys.length := by
      have : (xs.length : Int) = ys.length := by simpa using hlen
      omega
    (repeat' (first | ((with_reducible refine aops_cons' fun C hC => ?_); simp only [go_sem, encL_len, hlen]; (with_reducible refine finA hC ?_); clear hC C) | ((with_reducible refine aopsD_cons' fun C hC => ?_); simp only [go_sem, encL_len, hlen]; (with_reducible refine finD hC ?_); clear hC C) | ((with_reducible refine awp_seq_k fun K hK => ?_)) | ((with_reducible refine awp_reg_k fun K hK => ?_)) | ((with_reducible refine awp_dreg_k fun K hK => ?_)) | ((with_reducible refine aops_nil ?_); (with_reducible refine hK _ _ ?_); try clear hK K) | ((with_reducible refine aopsD_nil ?_); (with_reducible refine hK _ _ _ ?_ ?_); (focus (kernel_rfl)); try clear hK K) | ((with_reducible refine thn_normal ?_); (with_reducible refine hK _ _ ?_); try clear hK K) | ((with_reducible refine catch_normal ?_)) | ((with_reducible refine awp_skip_k ?_)) | ((with_reducible refine awp_ret_k ?_)) | ((with_reducible refine awp_exit_k ?_)) | ((with_reducible refine awp_block_k ?_)) | ((with_reducible refine thn_exit ?_); try clear hK K) | ((with_reducible refine thn_ret ?_); try clear hK K) | ((with_reducible refine catch_ret ?_)) | ((with_reducible refine catch_exit ?_)) | ((with_reducible refine catch_other ?_ ?_); (focus (decide))) | ((with_reducible apply aops_guard'); (focus (simp only [go_sem, encL_len, hlen]; exact rfl))) | ((with_reducible apply aopsD_guard'); (focus (simp only [go_sem, encL_len, hlen]; exact rfl))) | (first | (with_reducible refine gk_tt ?_) | (with_reducible refine gk_ff ?_)) | ((with_reducible intro C hC); simp only [go_sem, encL_len, hlen]; (first | (with_reducible refine finA hC ?_); clear hC C | (with_reducible refine finD hC ?_); clear hC C)) | ((first | (with_reducible refine gk_tf ?_) | (with_reducible refine gk_ft ?_) | (with_reducible refine gk_u ?_) | (with_reducible refine gk_u' ?_)); first | (intro _ e; (first | rw [put_some] at e | rw [put_none] at e); subst e) | (intro _ _ e e'; (first | rw [put_some] at e | rw [put_none] at e); subst e; subst e')) | ((with_reducible apply awp_cond_g); (focus (simp only [go_sem, encL_len, hlen]; exact rfl))) | (with_reducible refine ck_t ?_) | (with_reducible refine ck_f ?_)))
    have rows : ∀ (rest rest' pre pre' : List Ty), pre ++ rest = xs → pre' ++ rest' = ys → pre.length = pre'.length → eqTL xs ys = eqTL rest rest' → loopN (awp Try.prog ac65_l0) (catch_ 0 (thn K (retP [RV.tmp 6] [bb (eqTL xs ys)]))) (rest.length + 1)
       [(17, .pv (ii pre.length)), (16, .pv (ii xs.length)), (15, .pv (.list 3 (encL xs))), (2, .pv (.fn 15 [])), (1, .pv (.list 3 (encL ys))), (0, .pv (.list 3 (encL xs)))] [] := by
      intro rest
      induction rest with
      | nil =>
        intro rest' pre pre' hpre hpre' hll he
        have hpre : pre = xs := by simpa using hpre
        have hr : rest' = [] := by
          have h1 := congrArg List.length hpre'
          simp only [List.length_append] at h1
          subst hpre
          exact List.eq_nil_of_length_eq_zero (by omega)
        subst hpre; subst hr
        refine loopN_k fun K1 hK1 => ?_
        unfold ac65_l0
        (repeat' (first | ((with_reducible refine aops_cons' fun C hC => ?_); simp only [go_sem, lt_end]; (with_reducible refine finA hC ?_); clear hC C) | ((with_reducible refine aopsD_cons' fun C hC => ?_); simp only [go_sem, lt_end]; (with_reducible refine finD hC ?_); clear hC C) | ((with_reducible refine awp_seq_k fun K hK => ?_)) | ((with_reducible refine awp_reg_k fun K hK => ?_)) | ((with_reducible refine awp_dreg_k fun K hK => ?_)) | ((with_reducible refine aops_nil ?_); (with_reducible refine hK _ _ ?_); try clear hK K) | ((with_reducible refine aopsD_nil ?_); (with_reducible refine hK _ _ _ ?_ ?_); (focus (kernel_rfl)); try clear hK K) | ((with_reducible refine thn_normal ?_); (with_reducible refine hK _ _ ?_); try clear hK K) | ((with_reducible refine catch_normal ?_)) | ((with_reducible refine awp_skip_k ?_)) | ((with_reducible refine awp_ret_k ?_)) | ((with_reducible refine awp_exit_k ?_)) | ((with_reducible refine awp_block_k ?_)) | ((with_reducible refine thn_exit ?_); try clear hK K) | ((with_reducible refine thn_ret ?_); try clear hK K) | ((with_reducible refine catch_ret ?_)) | ((with_reducible refine catch_exit ?_)) | ((with_reducible refine catch_other ?_ ?_); (focus (decide))) | ((with_reducible apply aops_guard'); (focus (simp only [go_sem, lt_end]; exact rfl))) | ((with_reducible apply aopsD_guard'); (focus (simp only [go_sem, lt_end]; exact rfl))) | (first | (with_reducible refine gk_tt ?_) | (with_reducible refine gk_ff ?_)) | ((with_reducible intro C hC); simp only [go_sem, lt_end]; (first | (with_reducible refine finA hC ?_); clear hC C | (with_reducible refine finD hC ?_); clear hC C)) | ((first | (with_reducible refine gk_tf ?_) | (with_reducible refine gk_ft ?_) | (with_reducible refine gk_u ?_) | (with_reducible refine gk_u' ?_)); first | (intro _ e; (first | rw [put_some] at e | rw [put_none] at e); subst e) | (intro _ _ e e'; (first | rw [put_some] at e | rw [put_none] at e); subst e; subst e')) | ((with_reducible apply awp_cond_g); (focus (simp only [go_sem, lt_end]; exact rfl))) | (with_reducible refine ck_t ?_) | (with_reducible refine ck_f ?_)))
        rw [he]
        (refine retP_ret (List.range 40) rfl ?_; (try simp only [eqTL, if_true, if_false, Bool.false_eq_true, Bool.not_true, Bool.not_false]); exact vwA)
      | cons t rest ih =>
        intro rest' pre pre' hpre hpre' hll he
        cases rest' with
        | nil =>
          have h1 := congrArg List.length hpre
          have h2 := congrArg List.length hpre'
          simp at h1 h2; omega
        | cons u rest' =>
        have hlt : decide ((pre.length : Int) < (xs.length : Int)) = true := by subst hpre; exact lt_app _ _ _
        have hat : (encL xs)[pre.length]? = some t.enc := by subst hpre; exact encL_at _ _ _
        have hat' : (encL ys)[pre.length]? = some u.enc := by rw [hll]; subst hpre'; exact encL_at _ _ _
        have hb : pre.length + 1 ≤ big := by have := congrArg List.length hpre; simp at this; unfold big; omega
        have hc := hp t (by subst hpre; simp) u
        refine loopN_k fun K1 hK1 => ?_
        unfold ac65_l0
        cases hpt : eqT t u with
        | false =>
          rw [hpt] at hc
          (repeat' (first | ((first | (with_reducible refine aops_call fun C hC => ?_) | (with_reducible refine aopsD_call fun C hC => ?_) | ((with_reducible intro C hC); (with_reducible refine ax_call_mp ?_))); (first | (simp only [go_sem, hlt, hat, hat', cells_enc, pcells_enc, Ty.tc]; (first | ((with_reducible apply ACall.pure0 [] (hc)); (focus (exact vwA)))))); (simp only [PV.scal, PV.scalL, if_true, Bool.and_true, Bool.and_false, Bool.false_and, Bool.true_and, frz, List.map_nil, Bool.false_eq_true, if_false, ite_self, hlt, hat, hat', cells_enc, pcells_enc, Ty.tc]); (first | (with_reducible refine finA hC ?_); clear hC C | (with_reducible refine finD hC ?_); clear hC C)) | ((with_reducible refine aops_cons' fun C hC => ?_); simp only [go_sem, hlt, hat, hat', cells_enc, pcells_enc, Ty.tc]; (with_reducible refine finA hC ?_); clear hC C) | ((with_reducible refine aopsD_cons' fun C hC => ?_); simp only [go_sem, hlt, hat, hat', cells_enc, pcells_enc, Ty.tc]; (with_reducible refine finD hC ?_); clear hC C) | ((with_reducible refine awp_seq_k fun K hK => ?_)) | ((with_reducible refine awp_reg_k fun K hK => ?_)) | ((with_reducible refine awp_dreg_k fun K hK => ?_)) | ((with_reducible refine aops_nil ?_); (with_reducible refine hK _ _ ?_); try clear hK K) | ((with_reducible refine aopsD_nil ?_); (with_reducible refine hK _ _ _ ?_ ?_); (focus (kernel_rfl)); try clear hK K) | ((with_reducible refine thn_normal ?_); (with_reducible refine hK _ _ ?_); try clear hK K) | ((with_reducible refine catch_normal ?_)) | ((with_reducible refine awp_skip_k ?_)) | ((with_reducible refine awp_ret_k ?_)) | ((with_reducible refine awp_exit_k ?_)) | ((with_reducible refine awp_block_k ?_)) | ((with_reducible refine thn_exit ?_); try clear hK K) | ((with_reducible refine thn_ret ?_); try clear hK K) | ((with_reducible refine catch_ret ?_)) | ((with_reducible refine catch_exit ?_)) | ((with_reducible refine catch_other ?_ ?_); (focus (decide))) | ((with_reducible apply aops_guard'); (focus (simp only [go_sem, hlt, hat, hat', cells_enc, pcells_enc, Ty.tc]; exact rfl))) | ((with_reducible apply aopsD_guard'); (focus (simp only [go_sem, hlt, hat, hat', cells_enc, pcells_enc, Ty.tc]; exact rfl))) | (first | (with_reducible refine gk_tt ?_) | (with_reducible refine gk_ff ?_)) | ((with_reducible intro C hC); simp only [go_sem, hlt, hat, hat', cells_enc, pcells_enc, Ty.tc]; (first | (with_reducible refine finA hC ?_); clear hC C | (with_reducible refine finD hC ?_); clear hC C)) | ((first | (with_reducible refine gk_tf ?_) | (with_reducible refine gk_ft ?_) | (with_reducible refine gk_u ?_) | (with_reducible refine gk_u' ?_)); first | (intro _ e; (first | rw [put_some] at e | rw [put_none] at e); subst e) | (intro _ _ e e'; (first | rw [put_some] at e | rw [put_none] at e); subst e; subst e')) | ((with_reducible apply awp_cond_g); (focus (simp only [go_sem, hlt, hat, hat', cells_enc, pcells_enc, Ty.tc]; exact rfl))) | (with_reducible refine ck_t ?_) | (with_reducible refine ck_f ?_)))
          simp only [eqTL, hpt, Bool.false_eq_true, if_false] at he
          rw [he]
          (refine retP_ret (List.range 40) rfl ?_; exact vwA)
        | true =>
          rw [hpt] at hc
          (repeat' (first | ((first | (with_reducible refine aops_call fun C hC => ?_) | (with_reducible refine aopsD_call fun C hC => ?_) | ((with_reducible intro C hC); (with_reducible refine ax_call_mp ?_))); (first | (simp only [go_sem, hlt, hat, hat', cells_enc, pcells_enc, Ty.tc]; (first | ((with_reducible apply ACall.pure0 [] (hc)); (focus (exact vwA)))))); (simp only [PV.scal, PV.scalL, if_true, Bool.and_true, Bool.and_false, Bool.false_and, Bool.true_and, frz, List.map_nil, Bool.false_eq_true, if_false, ite_self, hlt, hat, hat', cells_enc, pcells_enc, Ty.tc]); (first | (with_reducible refine finA hC ?_); clear hC C | (with_reducible refine finD hC ?_); clear hC C)) | ((with_reducible refine aops_cons' fun C hC => ?_); simp only [go_sem, hlt, hat, hat', cells_enc, pcells_enc, Ty.tc]; (with_reducible refine finA hC ?_); clear hC C) | ((with_reducible refine aopsD_cons' fun C hC => ?_); simp only [go_sem, hlt, hat, hat', cells_enc, pcells_enc, Ty.tc]; (with_reducible refine finD hC ?_); clear hC C) | ((with_reducible refine awp_seq_k fun K hK => ?_)) | ((with_reducible refine awp_reg_k fun K hK => ?_)) | ((with_reducible refine awp_dreg_k fun K hK => ?_)) | ((with_reducible refine aops_nil ?_); (with_reducible refine hK _ _ ?_); try clear hK K) | ((with_reducible refine aopsD_nil ?_); (with_reducible refine hK _ _ _ ?_ ?_); (focus (kernel_rfl)); try clear hK K) | ((with_reducible refine thn_normal ?_); (with_reducible refine hK _ _ ?_); try clear hK K) | ((with_reducible refine catch_normal ?_)) | ((with_reducible refine awp_skip_k ?_)) | ((with_reducible refine awp_ret_k ?_)) | ((with_reducible refine awp_exit_k ?_)) | ((with_reducible refine awp_block_k ?_)) | ((with_reducible refine thn_exit ?_); try clear hK K) | ((with_reducible refine thn_ret ?_); try clear hK K) | ((with_reducible refine catch_ret ?_)) | ((with_reducible refine catch_exit ?_)) | ((with_reducible refine catch_other ?_ ?_); (focus (decide))) | ((with_reducible apply aops_guard'); (focus (simp only [go_sem, hlt, hat, hat', cells_enc, pcells_enc, Ty.tc]; exact rfl))) | ((with_reducible apply aopsD_guard'); (focus (simp only [go_sem, hlt, hat, hat', cells_enc, pcells_enc, Ty.tc]; exact rfl))) | (first | (with_reducible refine gk_tt ?_) | (with_reducible refine gk_ff ?_)) | ((with_reducible intro C hC); simp only [go_sem, hlt, hat, hat', cells_enc, pcells_enc, Ty.tc]; (first | (with_reducible refine finA hC ?_); clear hC C | (with_reducible refine finD hC ?_); clear hC C)) | ((first | (with_reducible refine gk_tf ?_) | (with_reducible refine gk_ft ?_) | (with_reducible refine gk_u ?_) | (with_reducible refine gk_u' ?_)); first | (intro _ e; (first | rw [put_some] at e | rw [put_none] at e); subst e) | (intro _ _ e e'; (first | rw [put_some] at e | rw [put_none] at e); subst e; subst e')) | ((with_reducible apply awp_cond_g); (focus (simp only [go_sem, hlt, hat, hat', cells_enc, pcells_enc, Ty.tc]; exact rfl))) | (with_reducible refine ck_t ?_) | (with_reducible refine ck_f ?_)))
          have hw := wrapS (n := pre.length) (by unfold big at hb; omega)
          refine thn_normal ?_
          refine hK1 _ _ _ _ _ (LeB [] (by refine ⟨?_, ?_, ?_⟩ <;> simp only [leFr, leFb, leHp, V.ren, V.renL, V.bd, V.bdL, allL, lt, Go.Ab.get, hget, List.map_cons, List.map_nil, List.length_cons, List.length_nil, List.length_append, List.getElem?_cons_zero, List.getElem?_cons_succ, List.getElem?_nil, Option.join_some, Option.join_none, List.getD_cons_zero, List.getD_cons_succ, List.getD_nil, Nat.reduceAdd, Nat.reduceLT, Nat.reduceEqDiff, Nat.zero_add, reduceIte, if_true, if_false, and_true, true_and, renL_vcells, allL_vcells, renL_pv, leBlk_some, eq_self, true_or, or_true, reduceCtorEq, false_or, hw, List.length_append])) (ih rest' (pre ++ [t]) (pre' ++ [u]) (by simp [hpre]) (by simp [hpre']) (by simp [hll]) (by simpa [eqTL, hpt] using he))
    refine awp_loop_k _ (LeB [] (by refine ⟨?_, ?_, ?_⟩ <;> simp only [leFr, leFb, leHp, V.ren, V.renL, V.bd, V.bdL, allL, lt, Go.Ab.get, hget, List.map_cons, List.map_nil, List.length_cons, List.length_nil, List.length_append, List.getElem?_cons_zero, List.getElem?_cons_succ, List.getElem?_nil, Option.join_some, Option.join_none, List.getD_cons_zero, List.getD_cons_succ, List.getD_nil, Nat.reduceAdd, Nat.reduceLT, Nat.reduceEqDiff, Nat.zero_add, reduceIte, if_true, if_false, and_true, true_and, renL_vcells, allL_vcells, renL_pv, leBlk_some, eq_self, true_or, or_true, reduceCtorEq, false_or, c0])) (rows xs ys [] [] rfl rfl rfl rfl)
theorem eqT_eq (a b : Ty) : eqT a b = if a.kd == b.kd then if a.id == b.id then eqTL a.args b.args else false else false := by
  cases a; cases b; simp only [eqT]; rfl
set_option maxHeartbeats 1000000 in
theorem equal_ok : ∀ a b : Ty, PCall Try.prog 15 [a.enc, b.enc] (bb (eqT a b))
  | .mk k i ss, b => by
    have hrec : ∀ t ∈ ss, ∀ u, PCall Try.prog 15 [t.enc, u.enc] (bb (eqT t u)) := fun t ht u => equal_ok t u
    have hc := eqf_ok ss b.args hrec
    clear hrec
    rw [eqT_eq]
    refine PCall.intro (ps := [bb _]) fn15 (by simp) ?_
    unfold ac15
    simp only [argFr]
    (repeat' (first | ((first | (with_reducible refine aops_call fun C hC => ?_) | (with_reducible refine aopsD_call fun C hC => ?_) | ((with_reducible intro C hC); (with_reducible refine ax_call_mp ?_))); (first | (simp only [go_sem, cells_enc, tc_len, Ty.tc, Ty.kd, Ty.id, Ty.args]; (first | ((with_reducible apply ACall.pure0 [] (hc)); (focus (exact vwA)))))); (simp only [PV.scal, PV.scalL, if_true, Bool.and_true, Bool.and_false, Bool.false_and, Bool.true_and, frz, List.map_nil, Bool.false_eq_true, if_false, ite_self, cells_enc, tc_len, Ty.tc, Ty.kd, Ty.id, Ty.args]); (first | (with_reducible refine finA hC ?_); clear hC C | (with_reducible refine finD hC ?_); clear hC C)) | ((with_reducible refine aops_cons' fun C hC => ?_); simp only [go_sem, cells_enc, tc_len, Ty.tc, Ty.kd, Ty.id, Ty.args]; (with_reducible refine finA hC ?_); clear hC C) | ((with_reducible refine aopsD_cons' fun C hC => ?_); simp only [go_sem, cells_enc, tc_len, Ty.tc, Ty.kd, Ty.id, Ty.args]; (with_reducible refine finD hC ?_); clear hC C) | ((with_reducible refine awp_seq_k fun K hK => ?_)) | ((with_reducible refine awp_reg_k fun K hK => ?_)) | ((with_reducible refine awp_dreg_k fun K hK => ?_)) | ((with_reducible refine aops_nil ?_); (with_reducible refine hK _ _ ?_); try clear hK K) | ((with_reducible refine aopsD_nil ?_); (with_reducible refine hK _ _ _ ?_ ?_); (focus (kernel_rfl)); try clear hK K) | ((with_reducible refine thn_normal ?_); (with_reducible refine hK _ _ ?_); try clear hK K) | ((with_reducible refine catch_normal ?_)) | ((with_reducible refine awp_skip_k ?_)) | ((with_reducible refine awp_ret_k ?_)) | ((with_reducible refine awp_exit_k ?_)) | ((with_reducible refine awp_block_k ?_)) | ((with_reducible refine thn_exit ?_); try clear hK K) | ((with_reducible refine thn_ret ?_); try clear hK K) | ((with_reducible refine catch_ret ?_)) | ((with_reducible refine catch_exit ?_)) | ((with_reducible refine catch_other ?_ ?_); (focus (decide))) | ((with_reducible apply aops_guard'); (focus (simp only [go_sem, cells_enc, tc_len, Ty.tc, Ty.kd, Ty.id, Ty.args]; exact rfl))) | ((with_reducible apply aopsD_guard'); (focus (simp only [go_sem, cells_enc, tc_len, Ty.tc, Ty.kd, Ty.id, Ty.args]; exact rfl))) | (first | (with_reducible refine gk_tt ?_) | (with_reducible refine gk_ff ?_)) | ((with_reducible intro C hC); simp only [go_sem, cells_enc, tc_len, Ty.tc, Ty.kd, Ty.id, Ty.args]; (first | (with_reducible refine finA hC ?_); clear hC C | (with_reducible refine finD hC ?_); clear hC C)) | ((first | (with_reducible refine gk_tf ?_) | (with_reducible refine gk_ft ?_) | (with_reducible refine gk_u ?_) | (with_reducible refine gk_u' ?_)); first | (intro _ e; (first | rw [put_some] at e | rw [put_none] at e); subst e) | (intro _ _ e e'; (first | rw [put_some] at e | rw [put_none] at e); subst e; subst e')) | ((with_reducible apply awp_cond_g); (focus (simp only [go_sem, cells_enc, tc_len, Ty.tc, Ty.kd, Ty.id, Ty.args]; exact rfl))) | (with_reducible refine ck_t ?_) | (with_reducible refine ck_f ?_) | ((with_reducible refine ck_s (fun h => ?_) (fun h => ?_)); all_goals ((try simp only [Bool.not_eq_true', Bool.not_eq_false'] at h); (try simp only [h, Bool.not_true, Bool.not_false]))) | ((with_reducible refine gk_s (fun h => ?_) (fun h => ?_)); all_goals ((try simp only [Bool.not_eq_true', Bool.not_eq_false'] at h); (try simp only [h, Bool.not_true, Bool.not_false])))))
    all_goals (refine retP_ret (List.range 40) rfl ?_; (try simp only [Ty.kd, Ty.id, Ty.args, *, if_true, if_false, Bool.false_eq_true, Bool.not_true, Bool.not_false]); exact vwA)
termination_by t => SizeOf.sizeOf t
decreasing_by
  have := List.sizeOf_lt_of_mem ht
  simp only [Ty.mk.sizeOf_spec]; omega
end Go.Proofs.Ytgphapkpoamcgaa
