/- Q15: joined from Q15. -/
import Derived.Test.YtbdoblgofddhdaaFnR
import Derived.Test.YtbdoblgofddhdaaQ14
import Derived.Test.YtbdoblgofddhdaaX2
/- Exhaustiveness: the examples. -/
set_option maxRecDepth 10000
set_option linter.unusedSimpArgs false
set_option linter.unusedVariables false
namespace Go.Proofs.Ytbdoblgofddhdaa
open Go Go.Ab
-- vwT vwW
set_option maxHeartbeats 1000000 in
theorem eqiB_ok (xs ys : List Int) : PCall Try.prog 51 [.list 1 (encI xs), .list 1 (encI ys)] (bb (eqIL xs ys)) := by
  refine PCall.intro' (ps := [bb (eqIL xs ys)]) fn51 (by simp) fun hok => ?_
  have hss : xs.length ≤ 1099511627776 := by
    simp only [PV.okL, PV.ok, encI_len, big] at hok; exact hok.1.1
  clear hok
  unfold ac51
  simp only [argFr]
  cases hlen : ((xs.length : Int) != (ys.length : Int)) with
  | true =>
    (repeat' (first | ((with_reducible first | refine aops_cons' fun C hC => ?_ | refine aopsD_cons' fun C hC => ?_ | intro C hC); simp only [go_sem, encI_len, hlen]; ((with_reducible first | refine finA hC ?_ | refine finD hC ?_); clear hC C)) | (with_reducible first | refine awp_seq_k fun K hK => ?_ | refine awp_reg_k fun K hK => ?_ | refine awp_dreg_k fun K hK => ?_ | (refine aops_nil ?_; refine hK _ _ ?_; try clear hK K) | (refine aopsD_nil ?_; refine hK _ _ _ ?_ ?_; (focus kernel_rfl); try clear hK K) | (refine thn_normal ?_; refine hK _ _ ?_; try clear hK K) | refine catch_normal ?_ | refine awp_skip_k ?_ | refine awp_ret_k ?_ | refine awp_exit_k ?_ | refine awp_block_k ?_ | (refine thn_exit ?_; try clear hK K) | (refine thn_ret ?_; try clear hK K) | refine catch_ret ?_ | refine catch_exit ?_ | (refine catch_other ?_ ?_; focus decide)) | ((with_reducible first | apply aops_guard' | apply aopsD_guard' | apply awp_cond_g); focus (simp only [go_sem, encI_len, hlen]; exact rfl)) | (with_reducible first | refine gk_tt ?_ | refine gk_ff ?_ | refine ck_t ?_ | refine ck_f ?_) | ((with_reducible first | refine gk_tf ?_ | refine gk_ft ?_ | refine gk_u ?_ | refine gk_u' ?_); first | (intro _ e; (first | rw [put_some] at e | rw [put_none] at e); subst e) | (intro _ _ e e'; (first | rw [put_some] at e | rw [put_none] at e); subst e; subst e'))))
    rw [eqIL_len hlen]
    (refine retP_ret (List.range 40) rfl ?_; (first | exact vwA | exact vwT | exact vwW))
  | false =>
    have hl : xs.length = ys.length := by
      have : (xs.length : Int) = ys.length := by simpa using hlen
      omega
    (repeat' (first | ((with_reducible first | refine aops_cons' fun C hC => ?_ | refine aopsD_cons' fun C hC => ?_ | intro C hC); simp only [go_sem, encI_len, hlen]; ((with_reducible first | refine finA hC ?_ | refine finD hC ?_); clear hC C)) | (with_reducible first | refine awp_seq_k fun K hK => ?_ | refine awp_reg_k fun K hK => ?_ | refine awp_dreg_k fun K hK => ?_ | (refine aops_nil ?_; refine hK _ _ ?_; try clear hK K) | (refine aopsD_nil ?_; refine hK _ _ _ ?_ ?_; (focus kernel_rfl); try clear hK K) | (refine thn_normal ?_; refine hK _ _ ?_; try clear hK K) | refine catch_normal ?_ | refine awp_skip_k ?_ | refine awp_ret_k ?_ | refine awp_exit_k ?_ | refine awp_block_k ?_ | (refine thn_exit ?_; try clear hK K) | (refine thn_ret ?_; try clear hK K) | refine catch_ret ?_ | refine catch_exit ?_ | (refine catch_other ?_ ?_; focus decide)) | ((with_reducible first | apply aops_guard' | apply aopsD_guard' | apply awp_cond_g); focus (simp only [go_sem, encI_len, hlen]; exact rfl)) | (with_reducible first | refine gk_tt ?_ | refine gk_ff ?_ | refine ck_t ?_ | refine ck_f ?_) | ((with_reducible first | refine gk_tf ?_ | refine gk_ft ?_ | refine gk_u ?_ | refine gk_u' ?_); first | (intro _ e; (first | rw [put_some] at e | rw [put_none] at e); subst e) | (intro _ _ e e'; (first | rw [put_some] at e | rw [put_none] at e); subst e; subst e'))))
    have rows : ∀ (rest rest' pre pre' : List Int), pre ++ rest = xs → pre' ++ rest' = ys → pre.length = pre'.length → eqIL xs ys = eqIL rest rest' → loopN (awp Try.prog ac51_l0) (catch_ 0 (thn K (retP [RV.tmp 4] [bb (eqIL xs ys)]))) (rest.length + 1)
       [(13, .pv (ii pre.length)), (12, .pv (ii xs.length)), (1, .pv (.list 1 (encI ys))), (0, .pv (.list 1 (encI xs)))] [] := by
      intro rest
      induction rest with
      | nil =>
        intro rest' pre pre' hpre hpre' hll he
        have hpre : pre = xs := by simpa using hpre
        have hr : rest' = [] := by
          have h1 := congrArg List.length hpre'
          simp only [List.length_append] at h1
          subst hpre
          exact List.eq_nil_of_length_eq_zero (by omega)
        subst hpre; subst hr
        refine loopN_k fun K1 hK1 => ?_
        unfold ac51_l0
        (repeat' (first | ((with_reducible first | refine aops_cons' fun C hC => ?_ | refine aopsD_cons' fun C hC => ?_ | intro C hC); simp only [go_sem, lt_end]; ((with_reducible first | refine finA hC ?_ | refine finD hC ?_); clear hC C)) | (with_reducible first | refine awp_seq_k fun K hK => ?_ | refine awp_reg_k fun K hK => ?_ | refine awp_dreg_k fun K hK => ?_ | (refine aops_nil ?_; refine hK _ _ ?_; try clear hK K) | (refine aopsD_nil ?_; refine hK _ _ _ ?_ ?_; (focus kernel_rfl); try clear hK K) | (refine thn_normal ?_; refine hK _ _ ?_; try clear hK K) | refine catch_normal ?_ | refine awp_skip_k ?_ | refine awp_ret_k ?_ | refine awp_exit_k ?_ | refine awp_block_k ?_ | (refine thn_exit ?_; try clear hK K) | (refine thn_ret ?_; try clear hK K) | refine catch_ret ?_ | refine catch_exit ?_ | (refine catch_other ?_ ?_; focus decide)) | ((with_reducible first | apply aops_guard' | apply aopsD_guard' | apply awp_cond_g); focus (simp only [go_sem, lt_end]; exact rfl)) | (with_reducible first | refine gk_tt ?_ | refine gk_ff ?_ | refine ck_t ?_ | refine ck_f ?_) | ((with_reducible first | refine gk_tf ?_ | refine gk_ft ?_ | refine gk_u ?_ | refine gk_u' ?_); first | (intro _ e; (first | rw [put_some] at e | rw [put_none] at e); subst e) | (intro _ _ e e'; (first | rw [put_some] at e | rw [put_none] at e); subst e; subst e'))))
        rw [he]
        (refine retP_ret (List.range 40) rfl ?_; (try simp only [eqIL, if_true, if_false, Bool.false_eq_true, Bool.not_true, Bool.not_false]); (first | exact vwA | exact vwT | exact vwW))
      | cons t rest ih =>
        intro rest' pre pre' hpre hpre' hll he
        cases rest' with
        | nil =>
          have h1 := congrArg List.length hpre
          have h2 := congrArg List.length hpre'
          simp at h1 h2; omega
        | cons u rest' =>
        have hlt : decide ((pre.length : Int) < (xs.length : Int)) = true := by subst hpre; exact lt_app _ _ _
        have hat : (encI xs)[pre.length]? = some (ii t) := by subst hpre; exact encI_at _ _ _
        have hat' : (encI ys)[pre.length]? = some (ii u) := by rw [hll]; subst hpre'; exact encI_at _ _ _
        have hb : pre.length + 1 ≤ big := by have := congrArg List.length hpre; simp at this; unfold big; omega
        refine loopN_k fun K1 hK1 => ?_
        unfold ac51_l0
        cases hpt : (t == u) with
        | false =>
          (repeat' (first | ((with_reducible first | refine aops_cons' fun C hC => ?_ | refine aopsD_cons' fun C hC => ?_ | intro C hC); simp only [go_sem, hlt, hat, hat', bne, hpt]; ((with_reducible first | refine finA hC ?_ | refine finD hC ?_); clear hC C)) | (with_reducible first | refine awp_seq_k fun K hK => ?_ | refine awp_reg_k fun K hK => ?_ | refine awp_dreg_k fun K hK => ?_ | (refine aops_nil ?_; refine hK _ _ ?_; try clear hK K) | (refine aopsD_nil ?_; refine hK _ _ _ ?_ ?_; (focus kernel_rfl); try clear hK K) | (refine thn_normal ?_; refine hK _ _ ?_; try clear hK K) | refine catch_normal ?_ | refine awp_skip_k ?_ | refine awp_ret_k ?_ | refine awp_exit_k ?_ | refine awp_block_k ?_ | (refine thn_exit ?_; try clear hK K) | (refine thn_ret ?_; try clear hK K) | refine catch_ret ?_ | refine catch_exit ?_ | (refine catch_other ?_ ?_; focus decide)) | ((with_reducible first | apply aops_guard' | apply aopsD_guard' | apply awp_cond_g); focus (simp only [go_sem, hlt, hat, hat', bne, hpt]; exact rfl)) | (with_reducible first | refine gk_tt ?_ | refine gk_ff ?_ | refine ck_t ?_ | refine ck_f ?_) | ((with_reducible first | refine gk_tf ?_ | refine gk_ft ?_ | refine gk_u ?_ | refine gk_u' ?_); first | (intro _ e; (first | rw [put_some] at e | rw [put_none] at e); subst e) | (intro _ _ e e'; (first | rw [put_some] at e | rw [put_none] at e); subst e; subst e'))))
          simp only [eqIL, hpt, Bool.false_eq_true, if_false] at he
          rw [he]
          (refine retP_ret (List.range 40) rfl ?_; (first | exact vwA | exact vwT | exact vwW))
        | true =>
          (repeat' (first | ((with_reducible first | refine aops_cons' fun C hC => ?_ | refine aopsD_cons' fun C hC => ?_ | intro C hC); simp only [go_sem, hlt, hat, hat', bne, hpt]; ((with_reducible first | refine finA hC ?_ | refine finD hC ?_); clear hC C)) | (with_reducible first | refine awp_seq_k fun K hK => ?_ | refine awp_reg_k fun K hK => ?_ | refine awp_dreg_k fun K hK => ?_ | (refine aops_nil ?_; refine hK _ _ ?_; try clear hK K) | (refine aopsD_nil ?_; refine hK _ _ _ ?_ ?_; (focus kernel_rfl); try clear hK K) | (refine thn_normal ?_; refine hK _ _ ?_; try clear hK K) | refine catch_normal ?_ | refine awp_skip_k ?_ | refine awp_ret_k ?_ | refine awp_exit_k ?_ | refine awp_block_k ?_ | (refine thn_exit ?_; try clear hK K) | (refine thn_ret ?_; try clear hK K) | refine catch_ret ?_ | refine catch_exit ?_ | (refine catch_other ?_ ?_; focus decide)) | ((with_reducible first | apply aops_guard' | apply aopsD_guard' | apply awp_cond_g); focus (simp only [go_sem, hlt, hat, hat', bne, hpt]; exact rfl)) | (with_reducible first | refine gk_tt ?_ | refine gk_ff ?_ | refine ck_t ?_ | refine ck_f ?_) | ((with_reducible first | refine gk_tf ?_ | refine gk_ft ?_ | refine gk_u ?_ | refine gk_u' ?_); first | (intro _ e; (first | rw [put_some] at e | rw [put_none] at e); subst e) | (intro _ _ e e'; (first | rw [put_some] at e | rw [put_none] at e); subst e; subst e'))))
          have hw := wrapS (n := pre.length) (by unfold big at hb; omega)
          refine thn_normal ?_
          refine hK1 _ _ _ _ _ (LeB [] (by refine ⟨?_, ?_, ?_⟩ <;> simp only [leFr, leFb, leHp, V.ren, V.renL, V.bd, V.bdL, allL, lt, Go.Ab.get, hget, List.map_cons, List.map_nil, List.length_cons, List.length_nil, List.length_append, List.getElem?_cons_zero, List.getElem?_cons_succ, List.getElem?_nil, Option.join_some, Option.join_none, List.getD_cons_zero, List.getD_cons_succ, List.getD_nil, Nat.reduceAdd, Nat.reduceLT, Nat.reduceEqDiff, Nat.zero_add, reduceIte, if_true, if_false, and_true, true_and, renL_vcells, allL_vcells, renL_pv, leBlk_some, eq_self, true_or, or_true, reduceCtorEq, false_or, hw, List.length_append])) (ih rest' (pre ++ [t]) (pre' ++ [u]) (by simp [hpre]) (by simp [hpre']) (by simp [hll]) (by simpa [eqIL, hpt] using he))
    refine awp_loop_k _ (LeB [] (by refine ⟨?_, ?_, ?_⟩ <;> simp only [leFr, leFb, leHp, V.ren, V.renL, V.bd, V.bdL, allL, lt, Go.Ab.get, hget, List.map_cons, List.map_nil, List.length_cons, List.length_nil, List.length_append, List.getElem?_cons_zero, List.getElem?_cons_succ, List.getElem?_nil, Option.join_some, Option.join_none, List.getD_cons_zero, List.getD_cons_succ, List.getD_nil, Nat.reduceAdd, Nat.reduceLT, Nat.reduceEqDiff, Nat.zero_add, reduceIte, if_true, if_false, and_true, true_and, renL_vcells, allL_vcells, renL_pv, leBlk_some, eq_self, true_or, or_true, reduceCtorEq, false_or, c0])) (rows xs ys [] [] rfl rfl rfl rfl)
def exDs : List Dm := [⟨1, [⟨5, []⟩, ⟨6, [1, 0]⟩]⟩, ⟨3, []⟩, ⟨2, []⟩]
def exRows : List (List Ty) := [[.mk 1 5 []], [.mk 1 6 [.mk 3 1 [], wT]]]
def exAll : List (List Ty) := exRows ++ [[wT], [.mk 1 5 []]]
def exRow : List Ty := [.mk 1 6 [.mk 3 0 [], wT]]
theorem exMis : missR exDs [0] exRows = some exRow := by rfl
theorem exMisAll : missR exDs [0] exAll = none := by rfl
theorem exRed : redR exDs [0] exAll = [3] := by rfl
theorem pat117 (k i : Int) (az : List Ty) : PCall Try.prog 117 [ii k, ii i, .list 3 (encL az)] (Ty.mk k i az).enc := by
  refine PCall.intro (ps := [(Ty.mk k i az).enc]) fn117 (by simp) ?_
  unfold ac117
  simp only [argFr]
  (repeat' (first | ((with_reducible first | refine aops_cons' fun C hC => ?_ | refine aopsD_cons' fun C hC => ?_ | intro C hC); simp only [go_sem]; ((with_reducible first | refine finA hC ?_ | refine finD hC ?_); clear hC C)) | (with_reducible first | refine awp_seq_k fun K hK => ?_ | refine awp_reg_k fun K hK => ?_ | refine awp_dreg_k fun K hK => ?_ | (refine aops_nil ?_; refine hK _ _ ?_; try clear hK K) | (refine aopsD_nil ?_; refine hK _ _ _ ?_ ?_; (focus kernel_rfl); try clear hK K) | (refine thn_normal ?_; refine hK _ _ ?_; try clear hK K) | refine catch_normal ?_ | refine awp_skip_k ?_ | refine awp_ret_k ?_ | refine awp_exit_k ?_ | refine awp_block_k ?_ | (refine thn_exit ?_; try clear hK K) | (refine thn_ret ?_; try clear hK K) | refine catch_ret ?_ | refine catch_exit ?_ | (refine catch_other ?_ ?_; focus decide)) | ((with_reducible first | apply aops_guard' | apply aopsD_guard' | apply awp_cond_g); focus (simp only [go_sem]; exact rfl)) | (with_reducible first | refine gk_tt ?_ | refine gk_ff ?_ | refine ck_t ?_ | refine ck_f ?_) | ((with_reducible first | refine gk_tf ?_ | refine gk_ft ?_ | refine gk_u ?_ | refine gk_u' ?_); first | (intro _ e; (first | rw [put_some] at e | rw [put_none] at e); subst e) | (intro _ _ e e'; (first | rw [put_some] at e | rw [put_none] at e); subst e; subst e'))))
  (refine retP_ret (List.range 40) rfl ?_; (try simp only [Ty.enc, if_true, if_false, Bool.false_eq_true, Bool.not_true, Bool.not_false]); (first | exact vwA | exact vwT | exact vwW))
theorem dom118 : PCall Try.prog 118 [] (.list 2 (encDm exDs)) := by
  refine PCall.intro (ps := [.list 2 (encDm exDs)]) fn118 (by simp) ?_
  unfold ac118
  simp only [argFr]
  (repeat' (first | ((with_reducible first | refine aops_cons' fun C hC => ?_ | refine aopsD_cons' fun C hC => ?_ | intro C hC); simp only [go_sem]; ((with_reducible first | refine finA hC ?_ | refine finD hC ?_); clear hC C)) | (with_reducible first | refine awp_seq_k fun K hK => ?_ | refine awp_reg_k fun K hK => ?_ | refine awp_dreg_k fun K hK => ?_ | (refine aops_nil ?_; refine hK _ _ ?_; try clear hK K) | (refine aopsD_nil ?_; refine hK _ _ _ ?_ ?_; (focus kernel_rfl); try clear hK K) | (refine thn_normal ?_; refine hK _ _ ?_; try clear hK K) | refine catch_normal ?_ | refine awp_skip_k ?_ | refine awp_ret_k ?_ | refine awp_exit_k ?_ | refine awp_block_k ?_ | (refine thn_exit ?_; try clear hK K) | (refine thn_ret ?_; try clear hK K) | refine catch_ret ?_ | refine catch_exit ?_ | (refine catch_other ?_ ?_; focus decide)) | ((with_reducible first | apply aops_guard' | apply aopsD_guard' | apply awp_cond_g); focus (simp only [go_sem]; exact rfl)) | (with_reducible first | refine gk_tt ?_ | refine gk_ff ?_ | refine ck_t ?_ | refine ck_f ?_) | ((with_reducible first | refine gk_tf ?_ | refine gk_ft ?_ | refine gk_u ?_ | refine gk_u' ?_); first | (intro _ e; (first | rw [put_some] at e | rw [put_none] at e); subst e) | (intro _ _ e e'; (first | rw [put_some] at e | rw [put_none] at e); subst e; subst e'))))
  (refine retP_ret (List.range 40) rfl ?_; (try simp only [encDm, exDs, Dm.enc, encVr, Vr.enc, encI, List.map_cons, List.map_nil, if_true, if_false, Bool.false_eq_true, Bool.not_true, Bool.not_false]); (first | exact vwA | exact vwT | exact vwW))
theorem pat97 (k i : Int) (az : List Ty) : PCall Try.prog 97 [ii k, ii i, .list 3 (encL az)] (Ty.mk k i az).enc := by
  refine PCall.intro (ps := [(Ty.mk k i az).enc]) fn97 (by simp) ?_
  unfold ac97
  simp only [argFr]
  (repeat' (first | ((with_reducible first | refine aops_cons' fun C hC => ?_ | refine aopsD_cons' fun C hC => ?_ | intro C hC); simp only [go_sem]; ((with_reducible first | refine finA hC ?_ | refine finD hC ?_); clear hC C)) | (with_reducible first | refine awp_seq_k fun K hK => ?_ | refine awp_reg_k fun K hK => ?_ | refine awp_dreg_k fun K hK => ?_ | (refine aops_nil ?_; refine hK _ _ ?_; try clear hK K) | (refine aopsD_nil ?_; refine hK _ _ _ ?_ ?_; (focus kernel_rfl); try clear hK K) | (refine thn_normal ?_; refine hK _ _ ?_; try clear hK K) | refine catch_normal ?_ | refine awp_skip_k ?_ | refine awp_ret_k ?_ | refine awp_exit_k ?_ | refine awp_block_k ?_ | (refine thn_exit ?_; try clear hK K) | (refine thn_ret ?_; try clear hK K) | refine catch_ret ?_ | refine catch_exit ?_ | (refine catch_other ?_ ?_; focus decide)) | ((with_reducible first | apply aops_guard' | apply aopsD_guard' | apply awp_cond_g); focus (simp only [go_sem]; exact rfl)) | (with_reducible first | refine gk_tt ?_ | refine gk_ff ?_ | refine ck_t ?_ | refine ck_f ?_) | ((with_reducible first | refine gk_tf ?_ | refine gk_ft ?_ | refine gk_u ?_ | refine gk_u' ?_); first | (intro _ e; (first | rw [put_some] at e | rw [put_none] at e); subst e) | (intro _ _ e e'; (first | rw [put_some] at e | rw [put_none] at e); subst e; subst e'))))
  (refine retP_ret (List.range 40) rfl ?_; (try simp only [Ty.enc, if_true, if_false, Bool.false_eq_true, Bool.not_true, Bool.not_false]); (first | exact vwA | exact vwT | exact vwW))
theorem dom98 : PCall Try.prog 98 [] (.list 2 (encDm exDs)) := by
  refine PCall.intro (ps := [.list 2 (encDm exDs)]) fn98 (by simp) ?_
  unfold ac98
  simp only [argFr]
  (repeat' (first | ((with_reducible first | refine aops_cons' fun C hC => ?_ | refine aopsD_cons' fun C hC => ?_ | intro C hC); simp only [go_sem]; ((with_reducible first | refine finA hC ?_ | refine finD hC ?_); clear hC C)) | (with_reducible first | refine awp_seq_k fun K hK => ?_ | refine awp_reg_k fun K hK => ?_ | refine awp_dreg_k fun K hK => ?_ | (refine aops_nil ?_; refine hK _ _ ?_; try clear hK K) | (refine aopsD_nil ?_; refine hK _ _ _ ?_ ?_; (focus kernel_rfl); try clear hK K) | (refine thn_normal ?_; refine hK _ _ ?_; try clear hK K) | refine catch_normal ?_ | refine awp_skip_k ?_ | refine awp_ret_k ?_ | refine awp_exit_k ?_ | refine awp_block_k ?_ | (refine thn_exit ?_; try clear hK K) | (refine thn_ret ?_; try clear hK K) | refine catch_ret ?_ | refine catch_exit ?_ | (refine catch_other ?_ ?_; focus decide)) | ((with_reducible first | apply aops_guard' | apply aopsD_guard' | apply awp_cond_g); focus (simp only [go_sem]; exact rfl)) | (with_reducible first | refine gk_tt ?_ | refine gk_ff ?_ | refine ck_t ?_ | refine ck_f ?_) | ((with_reducible first | refine gk_tf ?_ | refine gk_ft ?_ | refine gk_u ?_ | refine gk_u' ?_); first | (intro _ e; (first | rw [put_some] at e | rw [put_none] at e); subst e) | (intro _ _ e e'; (first | rw [put_some] at e | rw [put_none] at e); subst e; subst e'))))
  (refine retP_ret (List.range 40) rfl ?_; (try simp only [encDm, exDs, Dm.enc, encVr, Vr.enc, encI, List.map_cons, List.map_nil, if_true, if_false, Bool.false_eq_true, Bool.not_true, Bool.not_false]); (first | exact vwA | exact vwT | exact vwW))
set_option maxHeartbeats 4000000 in
theorem works52 : PCall Try.prog 52 [] (bb true) := by
  have p1 := pat117 1 5 []
  have p2 := pat117 3 1 []
  have p3 := pat117 1 6 [.mk 3 1 [], wT]
  have d := dom118
  have m1 := missing_ok exDs [0] exRows (by decide) (by decide)
  have m2 := missing_ok exDs [0] exAll (by decide) (by decide)
  have r1 := red_ok exDs [0] exAll (by decide) (by decide)
  have e1 := eqiB_ok [3] [3]
  rw [exMis] at m1
  rw [exMisAll] at m2
  rw [exRed] at r1
  have he : eqIL [3] [3] = true := rfl
  rw [he] at e1
  simp only [misV, encLLP, exRows, exAll, exRow, encL, Ty.enc, wT, encI, List.map_cons, List.map_nil, List.cons_append, List.nil_append] at p1 p2 p3 m1 m2 r1 e1
  have hbg : 2 + 2 ≤ big := by decide
  have hz2 : 0 < 2 := by decide
  have h11 : (((1 : Nat) : Int) == 1) = true := rfl
  have h22 : (((2 : Nat) : Int) == 2) = true := rfl
  have hx0 : ((6 : Int) == 6) = true := rfl
  have hx1 : ((3 : Int) == 3) = true := rfl
  refine PCall.intro (ps := [bb true]) fn52 (by simp) ?_
  unfold ac52
  simp only [argFr]
  (repeat' (first | ((first | (with_reducible refine aops_call fun C hC => ?_) | (with_reducible refine aopsD_call fun C hC => ?_) | ((with_reducible intro C hC); (with_reducible refine ax_call_mp ?_))); (first | (simp only [go_sem, h11, h22, hx0, hx1, pc_agg, hbg, hz2, Option.map_some, List.length_nil, Nat.zero_add, Nat.reduceAdd, ne_eq, reduceCtorEq, not_false_eq_true]; (first | ((with_reducible apply ACall.pure0 [] (p1)); (focus ((first | exact vwA | exact vwT | exact vwW)))) | ((with_reducible apply ACall.pure0 [] (p2)); (focus ((first | exact vwA | exact vwT | exact vwW)))) | ((with_reducible apply ACall.pure0 [1] (p3)); (focus ((first | exact vwA | exact vwT | exact vwW)))) | ((with_reducible apply ACall.pure0 [] (d)); (focus ((first | exact vwA | exact vwT | exact vwW)))) | ((with_reducible apply ACall.pure0 [0, 2, 3, 4] (m1)); (focus ((first | exact vwA | exact vwT | exact vwW)))) | ((with_reducible apply ACall.pure0 [0, 2, 5, 6, 8, 9] (m2)); (focus ((first | exact vwA | exact vwT | exact vwW)))) | ((with_reducible apply ACall.pure0 [0, 2, 5, 6, 8, 10] (r1)); (focus ((first | exact vwA | exact vwT | exact vwW)))) | ((with_reducible apply ACall.pure0 [11] (e1)); (focus ((first | exact vwA | exact vwT | exact vwW))))))); (simp only [PV.scal, PV.scalL, if_true, Bool.and_true, Bool.and_false, Bool.false_and, Bool.true_and, frz, List.map_nil, Bool.false_eq_true, if_false, ite_self, go_sem, h11, h22, hx0, hx1, pc_agg, hbg, hz2, Option.map_some, List.length_nil, Nat.zero_add, Nat.reduceAdd, ne_eq, reduceCtorEq, not_false_eq_true]); ((with_reducible first | refine finA hC ?_ | refine finD hC ?_); clear hC C)) | ((with_reducible first | refine aops_cons' fun C hC => ?_ | refine aopsD_cons' fun C hC => ?_ | intro C hC); simp only [go_sem, h11, h22, hx0, hx1, pc_agg, hbg, hz2, Option.map_some, List.length_nil, Nat.zero_add, Nat.reduceAdd, ne_eq, reduceCtorEq, not_false_eq_true]; ((with_reducible first | refine finA hC ?_ | refine finD hC ?_); clear hC C)) | (with_reducible first | refine awp_seq_k fun K hK => ?_ | refine awp_reg_k fun K hK => ?_ | refine awp_dreg_k fun K hK => ?_ | (refine aops_nil ?_; refine hK _ _ ?_; try clear hK K) | (refine aopsD_nil ?_; refine hK _ _ _ ?_ ?_; (focus kernel_rfl); try clear hK K) | (refine thn_normal ?_; refine hK _ _ ?_; try clear hK K) | refine catch_normal ?_ | refine awp_skip_k ?_ | refine awp_ret_k ?_ | refine awp_exit_k ?_ | refine awp_block_k ?_ | (refine thn_exit ?_; try clear hK K) | (refine thn_ret ?_; try clear hK K) | refine catch_ret ?_ | refine catch_exit ?_ | (refine catch_other ?_ ?_; focus decide)) | ((with_reducible first | apply aops_guard' | apply aopsD_guard' | apply awp_cond_g); focus (simp only [go_sem, h11, h22, hx0, hx1, pc_agg, hbg, hz2, Option.map_some, List.length_nil, Nat.zero_add, Nat.reduceAdd, ne_eq, reduceCtorEq, not_false_eq_true]; exact rfl)) | (with_reducible first | refine gk_tt ?_ | refine gk_ff ?_ | refine ck_t ?_ | refine ck_f ?_) | ((with_reducible first | refine gk_tf ?_ | refine gk_ft ?_ | refine gk_u ?_ | refine gk_u' ?_); first | (intro _ e; (first | rw [put_some] at e | rw [put_none] at e); subst e) | (intro _ _ e e'; (first | rw [put_some] at e | rw [put_none] at e); subst e; subst e'))))
  (refine retP_ret (List.range 40) rfl ?_; (first | exact vwA | exact vwT | exact vwW))
set_option maxHeartbeats 4000000 in
theorem works40 : PCall Try.prog 40 [] (bb true) := by
  have p1 := pat97 1 5 []
  have p2 := pat97 3 1 []
  have p3 := pat97 1 6 [.mk 3 1 [], wT]
  have d := dom98
  have m1 := missing_ok exDs [0] exRows (by decide) (by decide)
  have m2 := missing_ok exDs [0] exAll (by decide) (by decide)
  have r1 := red_ok exDs [0] exAll (by decide) (by decide)
  have e1 := eqiB_ok [3] [3]
  rw [exMis] at m1
  rw [exMisAll] at m2
  rw [exRed] at r1
  have he : eqIL [3] [3] = true := rfl
  rw [he] at e1
  simp only [misV, encLLP, exRows, exAll, exRow, encL, Ty.enc, wT, encI, List.map_cons, List.map_nil, List.cons_append, List.nil_append] at p1 p2 p3 m1 m2 r1 e1
  have hbg : 2 + 2 ≤ big := by decide
  have hz2 : 0 < 2 := by decide
  have h11 : (((1 : Nat) : Int) == 1) = true := rfl
  have h22 : (((2 : Nat) : Int) == 2) = true := rfl
  have hx0 : ((6 : Int) == 6) = true := rfl
  have hx1 : ((3 : Int) == 3) = true := rfl
  refine PCall.intro (ps := [bb true]) fn40 (by simp) ?_
  unfold ac40
  simp only [argFr]
  (repeat' (first | ((first | (with_reducible refine aops_call fun C hC => ?_) | (with_reducible refine aopsD_call fun C hC => ?_) | ((with_reducible intro C hC); (with_reducible refine ax_call_mp ?_))); (first | (simp only [go_sem, h11, h22, hx0, hx1, pc_agg, hbg, hz2, Option.map_some, List.length_nil, Nat.zero_add, Nat.reduceAdd, ne_eq, reduceCtorEq, not_false_eq_true]; (first | ((with_reducible apply ACall.pure0 [] (p1)); (focus ((first | exact vwA | exact vwT | exact vwW)))) | ((with_reducible apply ACall.pure0 [] (p2)); (focus ((first | exact vwA | exact vwT | exact vwW)))) | ((with_reducible apply ACall.pure0 [1] (p3)); (focus ((first | exact vwA | exact vwT | exact vwW)))) | ((with_reducible apply ACall.pure0 [] (d)); (focus ((first | exact vwA | exact vwT | exact vwW)))) | ((with_reducible apply ACall.pure0 [0, 2, 3, 4] (m1)); (focus ((first | exact vwA | exact vwT | exact vwW)))) | ((with_reducible apply ACall.pure0 [0, 2, 5, 6, 8, 9] (m2)); (focus ((first | exact vwA | exact vwT | exact vwW)))) | ((with_reducible apply ACall.pure0 [0, 2, 5, 6, 8, 10] (r1)); (focus ((first | exact vwA | exact vwT | exact vwW)))) | ((with_reducible apply ACall.pure0 [11] (e1)); (focus ((first | exact vwA | exact vwT | exact vwW))))))); (simp only [PV.scal, PV.scalL, if_true, Bool.and_true, Bool.and_false, Bool.false_and, Bool.true_and, frz, List.map_nil, Bool.false_eq_true, if_false, ite_self, go_sem, h11, h22, hx0, hx1, pc_agg, hbg, hz2, Option.map_some, List.length_nil, Nat.zero_add, Nat.reduceAdd, ne_eq, reduceCtorEq, not_false_eq_true]); ((with_reducible first | refine finA hC ?_ | refine finD hC ?_); clear hC C)) | ((with_reducible first | refine aops_cons' fun C hC => ?_ | refine aopsD_cons' fun C hC => ?_ | intro C hC); simp only [go_sem, h11, h22, hx0, hx1, pc_agg, hbg, hz2, Option.map_some, List.length_nil, Nat.zero_add, Nat.reduceAdd, ne_eq, reduceCtorEq, not_false_eq_true]; ((with_reducible first | refine finA hC ?_ | refine finD hC ?_); clear hC C)) | (with_reducible first | refine awp_seq_k fun K hK => ?_ | refine awp_reg_k fun K hK => ?_ | refine awp_dreg_k fun K hK => ?_ | (refine aops_nil ?_; refine hK _ _ ?_; try clear hK K) | (refine aopsD_nil ?_; refine hK _ _ _ ?_ ?_; (focus kernel_rfl); try clear hK K) | (refine thn_normal ?_; refine hK _ _ ?_; try clear hK K) | refine catch_normal ?_ | refine awp_skip_k ?_ | refine awp_ret_k ?_ | refine awp_exit_k ?_ | refine awp_block_k ?_ | (refine thn_exit ?_; try clear hK K) | (refine thn_ret ?_; try clear hK K) | refine catch_ret ?_ | refine catch_exit ?_ | (refine catch_other ?_ ?_; focus decide)) | ((with_reducible first | apply aops_guard' | apply aopsD_guard' | apply awp_cond_g); focus (simp only [go_sem, h11, h22, hx0, hx1, pc_agg, hbg, hz2, Option.map_some, List.length_nil, Nat.zero_add, Nat.reduceAdd, ne_eq, reduceCtorEq, not_false_eq_true]; exact rfl)) | (with_reducible first | refine gk_tt ?_ | refine gk_ff ?_ | refine ck_t ?_ | refine ck_f ?_) | ((with_reducible first | refine gk_tf ?_ | refine gk_ft ?_ | refine gk_u ?_ | refine gk_u' ?_); first | (intro _ e; (first | rw [put_some] at e | rw [put_none] at e); subst e) | (intro _ _ e e'; (first | rw [put_some] at e | rw [put_none] at e); subst e; subst e'))))
  (refine retP_ret (List.range 40) rfl ?_; (first | exact vwA | exact vwT | exact vwW))
end Go.Proofs.Ytbdoblgofddhdaa
