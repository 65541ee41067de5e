/- N5: joined from S3 Y5. -/
import Derived.Test.YtbdoblgofddhdaaFnN
import Derived.Test.YtbdoblgofddhdaaT1
import Derived.Test.YtbdoblgofddhdaaN4
import Derived.Test.YtbdoblgofddhdaaT7
/- Types: Validate. -/
set_option maxRecDepth 10000
set_option linter.unusedSimpArgs false
set_option linter.unusedVariables false
namespace Go.Proofs.Ytbdoblgofddhdaa
open Go Go.Ab
set_option maxHeartbeats 4000000 in
theorem nwf_ok (k id : Int) (ss : List Ty) : PCall Try.prog 152 [(Ty.mk k id ss).enc] (bb (nwf k id ss.length)) := by
  refine PCall.intro (ps := [bb (nwf k id ss.length)]) fn152 (by simp) ?_
  unfold ac152
  simp only [argFr]
  have hs : True := trivial
  (repeat' (first | ((with_reducible first | refine aops_cons' fun C hC => ?_ | refine aopsD_cons' fun C hC => ?_ | intro C hC); simp only [go_sem, cells_enc, Ty.tc, Ty.kd, Ty.id, Ty.args, encL_len, hs]; ((with_reducible first | refine finA hC ?_ | refine finD hC ?_); clear hC C)) | (with_reducible first | refine awp_seq_k fun K hK => ?_ | refine awp_reg_k fun K hK => ?_ | refine awp_dreg_k fun K hK => ?_ | (refine aops_nil ?_; refine hK _ _ ?_; try clear hK K) | (refine aopsD_nil ?_; refine hK _ _ _ ?_ ?_; (focus kernel_rfl); try clear hK K) | (refine thn_normal ?_; refine hK _ _ ?_; try clear hK K) | refine catch_normal ?_ | refine awp_skip_k ?_ | refine awp_ret_k ?_ | refine awp_exit_k ?_ | refine awp_block_k ?_ | (refine thn_exit ?_; try clear hK K) | (refine thn_ret ?_; try clear hK K) | refine catch_ret ?_ | refine catch_exit ?_ | (refine catch_other ?_ ?_; focus decide)) | ((with_reducible first | apply aops_guard' | apply aopsD_guard' | apply awp_cond_g); focus (simp only [go_sem, cells_enc, Ty.tc, Ty.kd, Ty.id, Ty.args, encL_len, hs]; exact rfl)) | (with_reducible first | refine gk_tt ?_ | refine gk_ff ?_ | refine ck_t ?_ | refine ck_f ?_) | ((with_reducible first | refine gk_tf ?_ | refine gk_ft ?_ | refine gk_u ?_ | refine gk_u' ?_); first | (intro _ e; (first | rw [put_some] at e | rw [put_none] at e); subst e) | (intro _ _ e e'; (first | rw [put_some] at e | rw [put_none] at e); subst e; subst e')) | ((with_reducible refine ck_s (fun h => ?_) (fun h => ?_)); all_goals ((try simp only [Bool.not_eq_true', Bool.not_eq_false'] at h); (try simp only [h, Bool.not_true, Bool.not_false]); (replace hs := And.intro h hs); clear h)) | ((with_reducible refine gk_s (fun h => ?_) (fun h => ?_)); all_goals ((try simp only [Bool.not_eq_true', Bool.not_eq_false'] at h); (try simp only [h, Bool.not_true, Bool.not_false]); (replace hs := And.intro h hs); clear h))))
  all_goals (refine retP_ret (List.range 40) rfl ?_; (try simp only [nwf, hs, if_true, if_false, Bool.false_eq_true, Bool.not_true, Bool.not_false, reduceIte]); exact vwA)
set_option maxHeartbeats 1000000 in
theorem wf_ok : ∀ t : Ty, PCall Try.prog 92 [t.enc] (bb (wfT t))
  | .mk k id ss => by
    have hrec : ∀ t ∈ ss, PCall Try.prog 92 [t.enc] (bb (wfT t)) := fun t ht => wf_ok t
    have hcl : ∀ t ∈ ss, PCall Try.prog 153 ([Ty.enc t] ++ []) (bb (!wfT t)) := fun t ht => by
      have hc := hrec t ht
      clear hrec
      refine PCall.intro (ps := [bb (!wfT t)]) fn153 (by simp) ?_
      unfold ac153
      simp only [argFr, List.append_nil]
      (repeat' (first | ((first | (with_reducible refine aops_call fun C hC => ?_) | (with_reducible refine aopsD_call fun C hC => ?_) | ((with_reducible intro C hC); (with_reducible refine ax_call_mp ?_))); (first | (simp only [go_sem, cells_enc, Ty.tc]; (first | ((with_reducible apply ACall.pure0 [] (hc)); (focus (exact vwA)))))); (simp only [PV.scal, PV.scalL, if_true, Bool.and_true, Bool.and_false, Bool.false_and, Bool.true_and, frz, List.map_nil, Bool.false_eq_true, if_false, ite_self, cells_enc, Ty.tc]); ((with_reducible first | refine finA hC ?_ | refine finD hC ?_); clear hC C)) | ((with_reducible first | refine aops_cons' fun C hC => ?_ | refine aopsD_cons' fun C hC => ?_ | intro C hC); simp only [go_sem, cells_enc, Ty.tc]; ((with_reducible first | refine finA hC ?_ | refine finD hC ?_); clear hC C)) | (with_reducible first | refine awp_seq_k fun K hK => ?_ | refine awp_reg_k fun K hK => ?_ | refine awp_dreg_k fun K hK => ?_ | (refine aops_nil ?_; refine hK _ _ ?_; try clear hK K) | (refine aopsD_nil ?_; refine hK _ _ _ ?_ ?_; (focus kernel_rfl); try clear hK K) | (refine thn_normal ?_; refine hK _ _ ?_; try clear hK K) | refine catch_normal ?_ | refine awp_skip_k ?_ | refine awp_ret_k ?_ | refine awp_exit_k ?_ | refine awp_block_k ?_ | (refine thn_exit ?_; try clear hK K) | (refine thn_ret ?_; try clear hK K) | refine catch_ret ?_ | refine catch_exit ?_ | (refine catch_other ?_ ?_; focus decide)) | ((with_reducible first | apply aops_guard' | apply aopsD_guard' | apply awp_cond_g); focus (simp only [go_sem, cells_enc, Ty.tc]; exact rfl)) | (with_reducible first | refine gk_tt ?_ | refine gk_ff ?_ | refine ck_t ?_ | refine ck_f ?_) | ((with_reducible first | refine gk_tf ?_ | refine gk_ft ?_ | refine gk_u ?_ | refine gk_u' ?_); first | (intro _ e; (first | rw [put_some] at e | rw [put_none] at e); subst e) | (intro _ _ e e'; (first | rw [put_some] at e | rw [put_none] at e); subst e; subst e'))))
      (refine retP_ret (List.range 40) rfl ?_; exact vwA)
    have hh := hasT_ok 153 [] (fun a => !wfT a) ss hcl
    rw [wfTL_any] at hh
    clear hrec hcl
    have hn := nwf_ok k id ss
    refine PCall.intro (ps := [bb (wfT (.mk k id ss))]) fn92 (by simp) ?_
    unfold ac92
    simp only [argFr]
    cases h1 : nwf k id ss.length with
    | true =>
      rw [h1] at hn
      (repeat' (first | ((first | (with_reducible refine aops_call fun C hC => ?_) | (with_reducible refine aopsD_call fun C hC => ?_) | ((with_reducible intro C hC); (with_reducible refine ax_call_mp ?_))); (first | (simp only [go_sem, cells_enc, Ty.tc, Ty.kd, Ty.id, Ty.args, Bool.not_not]; (first | ((with_reducible apply ACall.pure0 [] (hn)); (focus (exact vwA))) | ((with_reducible apply ACall.pure0 [] (hh)); (focus (exact vwA)))))); (simp only [PV.scal, PV.scalL, if_true, Bool.and_true, Bool.and_false, Bool.false_and, Bool.true_and, frz, List.map_nil, Bool.false_eq_true, if_false, ite_self, cells_enc, Ty.tc, Ty.kd, Ty.id, Ty.args, Bool.not_not]); ((with_reducible first | refine finA hC ?_ | refine finD hC ?_); clear hC C)) | ((with_reducible first | refine aops_cons' fun C hC => ?_ | refine aopsD_cons' fun C hC => ?_ | intro C hC); simp only [go_sem, cells_enc, Ty.tc, Ty.kd, Ty.id, Ty.args, Bool.not_not]; ((with_reducible first | refine finA hC ?_ | refine finD hC ?_); clear hC C)) | (with_reducible first | refine awp_seq_k fun K hK => ?_ | refine awp_reg_k fun K hK => ?_ | refine awp_dreg_k fun K hK => ?_ | (refine aops_nil ?_; refine hK _ _ ?_; try clear hK K) | (refine aopsD_nil ?_; refine hK _ _ _ ?_ ?_; (focus kernel_rfl); try clear hK K) | (refine thn_normal ?_; refine hK _ _ ?_; try clear hK K) | refine catch_normal ?_ | refine awp_skip_k ?_ | refine awp_ret_k ?_ | refine awp_exit_k ?_ | refine awp_block_k ?_ | (refine thn_exit ?_; try clear hK K) | (refine thn_ret ?_; try clear hK K) | refine catch_ret ?_ | refine catch_exit ?_ | (refine catch_other ?_ ?_; focus decide)) | ((with_reducible first | apply aops_guard' | apply aopsD_guard' | apply awp_cond_g); focus (simp only [go_sem, cells_enc, Ty.tc, Ty.kd, Ty.id, Ty.args, Bool.not_not]; exact rfl)) | (with_reducible first | refine gk_tt ?_ | refine gk_ff ?_ | refine ck_t ?_ | refine ck_f ?_) | ((with_reducible first | refine gk_tf ?_ | refine gk_ft ?_ | refine gk_u ?_ | refine gk_u' ?_); first | (intro _ e; (first | rw [put_some] at e | rw [put_none] at e); subst e) | (intro _ _ e e'; (first | rw [put_some] at e | rw [put_none] at e); subst e; subst e'))))
      (refine retP_ret (List.range 40) rfl ?_; (try simp only [wfT, h1, if_true, if_false, Bool.false_eq_true, Bool.not_true, Bool.not_false]); exact vwA)
    | false =>
      rw [h1] at hn
      (repeat' (first | ((first | (with_reducible refine aops_call fun C hC => ?_) | (with_reducible refine aopsD_call fun C hC => ?_) | ((with_reducible intro C hC); (with_reducible refine ax_call_mp ?_))); (first | (simp only [go_sem, cells_enc, Ty.tc, Ty.kd, Ty.id, Ty.args, Bool.not_not]; (first | ((with_reducible apply ACall.pure0 [] (hn)); (focus (exact vwA))) | ((with_reducible apply ACall.pure0 [] (hh)); (focus (exact vwA)))))); (simp only [PV.scal, PV.scalL, if_true, Bool.and_true, Bool.and_false, Bool.false_and, Bool.true_and, frz, List.map_nil, Bool.false_eq_true, if_false, ite_self, cells_enc, Ty.tc, Ty.kd, Ty.id, Ty.args, Bool.not_not]); ((with_reducible first | refine finA hC ?_ | refine finD hC ?_); clear hC C)) | ((with_reducible first | refine aops_cons' fun C hC => ?_ | refine aopsD_cons' fun C hC => ?_ | intro C hC); simp only [go_sem, cells_enc, Ty.tc, Ty.kd, Ty.id, Ty.args, Bool.not_not]; ((with_reducible first | refine finA hC ?_ | refine finD hC ?_); clear hC C)) | (with_reducible first | refine awp_seq_k fun K hK => ?_ | refine awp_reg_k fun K hK => ?_ | refine awp_dreg_k fun K hK => ?_ | (refine aops_nil ?_; refine hK _ _ ?_; try clear hK K) | (refine aopsD_nil ?_; refine hK _ _ _ ?_ ?_; (focus kernel_rfl); try clear hK K) | (refine thn_normal ?_; refine hK _ _ ?_; try clear hK K) | refine catch_normal ?_ | refine awp_skip_k ?_ | refine awp_ret_k ?_ | refine awp_exit_k ?_ | refine awp_block_k ?_ | (refine thn_exit ?_; try clear hK K) | (refine thn_ret ?_; try clear hK K) | refine catch_ret ?_ | refine catch_exit ?_ | (refine catch_other ?_ ?_; focus decide)) | ((with_reducible first | apply aops_guard' | apply aopsD_guard' | apply awp_cond_g); focus (simp only [go_sem, cells_enc, Ty.tc, Ty.kd, Ty.id, Ty.args, Bool.not_not]; exact rfl)) | (with_reducible first | refine gk_tt ?_ | refine gk_ff ?_ | refine ck_t ?_ | refine ck_f ?_) | ((with_reducible first | refine gk_tf ?_ | refine gk_ft ?_ | refine gk_u ?_ | refine gk_u' ?_); first | (intro _ e; (first | rw [put_some] at e | rw [put_none] at e); subst e) | (intro _ _ e e'; (first | rw [put_some] at e | rw [put_none] at e); subst e; subst e'))))
      (refine retP_ret (List.range 40) rfl ?_; (try simp only [wfT, h1, if_true, if_false, Bool.false_eq_true, Bool.not_true, Bool.not_false]); exact vwA)
termination_by t => SizeOf.sizeOf t
decreasing_by
  have := List.sizeOf_lt_of_mem ht
  simp only [Ty.mk.sizeOf_spec]; omega
set_option maxHeartbeats 2000000 in
theorem meas_ok : ∀ (t : Ty) (L : Int), 0 ≤ L → L ≤ 100 → PCall Try.prog 91 [t.enc, ii L] (.tup [ii (msr t L).1, ii (msr t L).2])
  | .mk k id ss, L, hL, hL1 => by
    have hrec : ∀ t ∈ ss, ∀ l : Int, 0 ≤ l → l ≤ 100 → PCall Try.prog 91 [t.enc, ii l] (.tup [ii (msr t l).1, ii (msr t l).2]) := fun t ht l h0 h1 => meas_ok t l h0 h1
    refine PCall.intro' (ps := [ii (msr (.mk k id ss) L).1, ii (msr (.mk k id ss) L).2]) fn91 (by simp) fun hok => ?_
    have hss : ss.length ≤ 1099511627776 := by
      simp only [PV.okL, Ty.enc, PV.ok, encL_len, big] at hok; exact hok.1.2.2.1.1
    clear hok
    unfold ac91
    simp only [argFr]
    (repeat' (first | ((with_reducible first | refine aops_cons' fun C hC => ?_ | refine aopsD_cons' fun C hC => ?_ | intro C hC); simp only [go_sem, encL_len, cells_enc, Ty.tc, Ty.kd, Ty.id, Ty.args]; ((with_reducible first | refine finA hC ?_ | refine finD hC ?_); clear hC C)) | (with_reducible first | refine awp_seq_k fun K hK => ?_ | refine awp_reg_k fun K hK => ?_ | refine awp_dreg_k fun K hK => ?_ | (refine aops_nil ?_; refine hK _ _ ?_; try clear hK K) | (refine aopsD_nil ?_; refine hK _ _ _ ?_ ?_; (focus kernel_rfl); try clear hK K) | (refine thn_normal ?_; refine hK _ _ ?_; try clear hK K) | refine catch_normal ?_ | refine awp_skip_k ?_ | refine awp_ret_k ?_ | refine awp_exit_k ?_ | refine awp_block_k ?_ | (refine thn_exit ?_; try clear hK K) | (refine thn_ret ?_; try clear hK K) | refine catch_ret ?_ | refine catch_exit ?_ | (refine catch_other ?_ ?_; focus decide)) | ((with_reducible first | apply aops_guard' | apply aopsD_guard' | apply awp_cond_g); focus (simp only [go_sem, encL_len, cells_enc, Ty.tc, Ty.kd, Ty.id, Ty.args]; exact rfl)) | (with_reducible first | refine gk_tt ?_ | refine gk_ff ?_ | refine ck_t ?_ | refine ck_f ?_) | ((with_reducible first | refine gk_tf ?_ | refine gk_ft ?_ | refine gk_u ?_ | refine gk_u' ?_); first | (intro _ e; (first | rw [put_some] at e | rw [put_none] at e); subst e) | (intro _ _ e e'; (first | rw [put_some] at e | rw [put_none] at e); subst e; subst e'))))
    have rows : ∀ (rest pre : List Ty) (s d : Int), pre ++ rest = ss → 1 ≤ s → s ≤ L + 1 → 0 ≤ d → d < s → msrL ss L 1 0 = msrL rest L s d → loopN (awp Try.prog ac91_l0) (catch_ 0 (thn K (retP [RV.tmp 4, RV.tmp 5] [ii (msr (.mk k id ss) L).1, ii (msr (.mk k id ss) L).2]))) (rest.length + 1)
       [(13, .pv (ii pre.length)), (12, .pv (ii ss.length)), (11, .pv (.list 3 (encL ss))), (5, .pv (ii d)), (4, .pv (ii s)), (2, .ptr 0 0 0), (1, .pv (ii L))]
       [some ⟨false, 26, 3, [[.pv (ii k), .pv (ii id), .pv (.list 3 (encL ss))]], none⟩] := by
      intro rest
      induction rest with
      | nil =>
        intro pre s d hpre h1 h2 h3 h4 he
        have hpre : pre = ss := by simpa using hpre
        subst hpre
        have hw : IntKind.i64.wrap (d + 1) = d + 1 := w64 (by omega)
        refine loopN_k fun K1 hK1 => ?_
        unfold ac91_l0
        (repeat' (first | ((with_reducible first | refine aops_cons' fun C hC => ?_ | refine aopsD_cons' fun C hC => ?_ | intro C hC); simp only [go_sem, lt_end, hw]; ((with_reducible first | refine finA hC ?_ | refine finD hC ?_); clear hC C)) | (with_reducible first | refine awp_seq_k fun K hK => ?_ | refine awp_reg_k fun K hK => ?_ | refine awp_dreg_k fun K hK => ?_ | (refine aops_nil ?_; refine hK _ _ ?_; try clear hK K) | (refine aopsD_nil ?_; refine hK _ _ _ ?_ ?_; (focus kernel_rfl); try clear hK K) | (refine thn_normal ?_; refine hK _ _ ?_; try clear hK K) | refine catch_normal ?_ | refine awp_skip_k ?_ | refine awp_ret_k ?_ | refine awp_exit_k ?_ | refine awp_block_k ?_ | (refine thn_exit ?_; try clear hK K) | (refine thn_ret ?_; try clear hK K) | refine catch_ret ?_ | refine catch_exit ?_ | (refine catch_other ?_ ?_; focus decide)) | ((with_reducible first | apply aops_guard' | apply aopsD_guard' | apply awp_cond_g); focus (simp only [go_sem, lt_end, hw]; exact rfl)) | (with_reducible first | refine gk_tt ?_ | refine gk_ff ?_ | refine ck_t ?_ | refine ck_f ?_) | ((with_reducible first | refine gk_tf ?_ | refine gk_ft ?_ | refine gk_u ?_ | refine gk_u' ?_); first | (intro _ e; (first | rw [put_some] at e | rw [put_none] at e); subst e) | (intro _ _ e e'; (first | rw [put_some] at e | rw [put_none] at e); subst e; subst e'))))
        simp only [msr, he, msrL]
        (refine retP_ret (List.range 40) rfl ?_; exact vwA)
      | cons t rest ih =>
        intro pre s d hpre h1 h2 h3 h4 he
        have hlt : decide ((pre.length : Int) < (ss.length : Int)) = true := by subst hpre; exact lt_app _ _ _
        have hat : (encL ss)[pre.length]? = some t.enc := by subst hpre; exact encL_at _ _ _
        have hb : pre.length + 1 ≤ big := by have := congrArg List.length hpre; simp at this; unfold big; omega
        have hm : t ∈ ss := by subst hpre; simp
        refine loopN_k fun K1 hK1 => ?_
        unfold ac91_l0
        cases hgt : decide (s > L) with
        | true =>
          have hw : IntKind.i64.wrap (d + 1) = d + 1 := w64 (by omega)
          clear hrec
          (repeat' (first | ((with_reducible first | refine aops_cons' fun C hC => ?_ | refine aopsD_cons' fun C hC => ?_ | intro C hC); simp only [go_sem, hlt, hat, cells_enc, pcells_enc, Ty.tc, hgt, hw]; ((with_reducible first | refine finA hC ?_ | refine finD hC ?_); clear hC C)) | (with_reducible first | refine awp_seq_k fun K hK => ?_ | refine awp_reg_k fun K hK => ?_ | refine awp_dreg_k fun K hK => ?_ | (refine aops_nil ?_; refine hK _ _ ?_; try clear hK K) | (refine aopsD_nil ?_; refine hK _ _ _ ?_ ?_; (focus kernel_rfl); try clear hK K) | (refine thn_normal ?_; refine hK _ _ ?_; try clear hK K) | refine catch_normal ?_ | refine awp_skip_k ?_ | refine awp_ret_k ?_ | refine awp_exit_k ?_ | refine awp_block_k ?_ | (refine thn_exit ?_; try clear hK K) | (refine thn_ret ?_; try clear hK K) | refine catch_ret ?_ | refine catch_exit ?_ | (refine catch_other ?_ ?_; focus decide)) | ((with_reducible first | apply aops_guard' | apply aopsD_guard' | apply awp_cond_g); focus (simp only [go_sem, hlt, hat, cells_enc, pcells_enc, Ty.tc, hgt, hw]; exact rfl)) | (with_reducible first | refine gk_tt ?_ | refine gk_ff ?_ | refine ck_t ?_ | refine ck_f ?_) | ((with_reducible first | refine gk_tf ?_ | refine gk_ft ?_ | refine gk_u ?_ | refine gk_u' ?_); first | (intro _ e; (first | rw [put_some] at e | rw [put_none] at e); subst e) | (intro _ _ e e'; (first | rw [put_some] at e | rw [put_none] at e); subst e; subst e'))))
          simp only [msr, he, msrL, hgt, if_true]
          (refine retP_ret (List.range 40) rfl ?_; exact vwA)
        | false =>
          have hsl : ¬ s > L := by simpa using hgt
          have hw1 : IntKind.i64.wrap (L - s) = L - s := w64 (by omega)
          have hc := hrec t hm (L - s) (by omega) (by omega)
          have hbd := msr_bd t (L - s) (by omega)
          have hw2 : IntKind.i64.wrap (s + (msr t (L - s)).1) = s + (msr t (L - s)).1 := w64 (by omega)
          clear hrec
          (repeat' (first | ((first | (with_reducible refine aops_call fun C hC => ?_) | (with_reducible refine aopsD_call fun C hC => ?_) | ((with_reducible intro C hC); (with_reducible refine ax_call_mp ?_))); (first | (simp only [go_sem, hlt, hat, cells_enc, pcells_enc, Ty.tc, hgt, hw1, hw2]; (first | ((with_reducible apply ACall.pure0 [] (hc)); (focus (exact vwA)))))); (simp only [PV.scal, PV.scalL, if_true, Bool.and_true, Bool.and_false, Bool.false_and, Bool.true_and, frz, List.map_nil, Bool.false_eq_true, if_false, ite_self, hlt, hat, cells_enc, pcells_enc, Ty.tc, hgt, hw1, hw2]); ((with_reducible first | refine finA hC ?_ | refine finD hC ?_); clear hC C)) | ((with_reducible first | refine aops_cons' fun C hC => ?_ | refine aopsD_cons' fun C hC => ?_ | intro C hC); simp only [go_sem, hlt, hat, cells_enc, pcells_enc, Ty.tc, hgt, hw1, hw2]; ((with_reducible first | refine finA hC ?_ | refine finD hC ?_); clear hC C)) | (with_reducible first | refine awp_seq_k fun K hK => ?_ | refine awp_reg_k fun K hK => ?_ | refine awp_dreg_k fun K hK => ?_ | (refine aops_nil ?_; refine hK _ _ ?_; try clear hK K) | (refine aopsD_nil ?_; refine hK _ _ _ ?_ ?_; (focus kernel_rfl); try clear hK K) | (refine thn_normal ?_; refine hK _ _ ?_; try clear hK K) | refine catch_normal ?_ | refine awp_skip_k ?_ | refine awp_ret_k ?_ | refine awp_exit_k ?_ | refine awp_block_k ?_ | (refine thn_exit ?_; try clear hK K) | (refine thn_ret ?_; try clear hK K) | refine catch_ret ?_ | refine catch_exit ?_ | (refine catch_other ?_ ?_; focus decide)) | ((with_reducible first | apply aops_guard' | apply aopsD_guard' | apply awp_cond_g); focus (simp only [go_sem, hlt, hat, cells_enc, pcells_enc, Ty.tc, hgt, hw1, hw2]; exact rfl)) | (with_reducible first | refine gk_tt ?_ | refine gk_ff ?_ | refine ck_t ?_ | refine ck_f ?_) | ((with_reducible first | refine gk_tf ?_ | refine gk_ft ?_ | refine gk_u ?_ | refine gk_u' ?_); first | (intro _ e; (first | rw [put_some] at e | rw [put_none] at e); subst e) | (intro _ _ e e'; (first | rw [put_some] at e | rw [put_none] at e); subst e; subst e'))))
          have hw := wrapS (n := pre.length) (by unfold big at hb; omega)
          refine thn_normal ?_
          refine hK1 _ _ _ _ _ (LeB [0] (by refine ⟨?_, ?_, ?_⟩ <;> simp only [leFr, leFb, leHp, V.ren, V.renL, V.bd, V.bdL, allL, lt, Go.Ab.get, hget, List.map_cons, List.map_nil, List.length_cons, List.length_nil, List.length_append, List.getElem?_cons_zero, List.getElem?_cons_succ, List.getElem?_nil, Option.join_some, Option.join_none, List.getD_cons_zero, List.getD_cons_succ, List.getD_nil, Nat.reduceAdd, Nat.reduceLT, Nat.reduceEqDiff, Nat.zero_add, reduceIte, if_true, if_false, and_true, true_and, renL_vcells, allL_vcells, renL_pv, leBlk_some, eq_self, true_or, or_true, reduceCtorEq, false_or, hw, List.length_append])) (ih (pre ++ [t]) (s + (msr t (L - s)).1) (if (msr t (L - s)).2 > d then (msr t (L - s)).2 else d) (by simp [hpre]) (by omega) (by omega) (by split <;> omega) (by split <;> omega) (by simpa only [msrL, hgt, Bool.false_eq_true, if_false] using he))
    refine awp_loop_k _ (LeB [0] (by refine ⟨?_, ?_, ?_⟩ <;> simp only [leFr, leFb, leHp, V.ren, V.renL, V.bd, V.bdL, allL, lt, Go.Ab.get, hget, List.map_cons, List.map_nil, List.length_cons, List.length_nil, List.length_append, List.getElem?_cons_zero, List.getElem?_cons_succ, List.getElem?_nil, Option.join_some, Option.join_none, List.getD_cons_zero, List.getD_cons_succ, List.getD_nil, Nat.reduceAdd, Nat.reduceLT, Nat.reduceEqDiff, Nat.zero_add, reduceIte, if_true, if_false, and_true, true_and, renL_vcells, allL_vcells, renL_pv, leBlk_some, eq_self, true_or, or_true, reduceCtorEq, false_or, c0])) (rows ss [] 1 0 rfl (by omega) (by omega) (by omega) (by omega) rfl)
termination_by t => SizeOf.sizeOf t
decreasing_by
  have := List.sizeOf_lt_of_mem ht
  simp only [Ty.mk.sizeOf_spec]; omega
set_option maxHeartbeats 1000000 in
theorem valid_ok (t : Ty) : PCall Try.prog 32 [t.enc] (ii (valT t)) := by
  have h1 := meas_ok t 100 (by omega) (by omega)
  have h2 := wf_ok t
  refine PCall.intro (ps := [ii (valT t)]) fn32 (by simp) ?_
  unfold ac32
  simp only [argFr]
  have hs : True := trivial
  (repeat' (first | ((first | (with_reducible refine aops_call fun C hC => ?_) | (with_reducible refine aopsD_call fun C hC => ?_) | ((with_reducible intro C hC); (with_reducible refine ax_call_mp ?_))); (first | (simp only [go_sem, cells_enc, Ty.tc, hs]; (first | ((with_reducible apply ACall.pure0 [] (h1)); (focus (exact vwA))) | ((with_reducible apply ACall.pure0 [] (h2)); (focus (exact vwA)))))); (simp only [PV.scal, PV.scalL, if_true, Bool.and_true, Bool.and_false, Bool.false_and, Bool.true_and, frz, List.map_nil, Bool.false_eq_true, if_false, ite_self, cells_enc, Ty.tc, hs]); ((with_reducible first | refine finA hC ?_ | refine finD hC ?_); clear hC C)) | ((with_reducible first | refine aops_cons' fun C hC => ?_ | refine aopsD_cons' fun C hC => ?_ | intro C hC); simp only [go_sem, cells_enc, Ty.tc, hs]; ((with_reducible first | refine finA hC ?_ | refine finD hC ?_); clear hC C)) | (with_reducible first | refine awp_seq_k fun K hK => ?_ | refine awp_reg_k fun K hK => ?_ | refine awp_dreg_k fun K hK => ?_ | (refine aops_nil ?_; refine hK _ _ ?_; try clear hK K) | (refine aopsD_nil ?_; refine hK _ _ _ ?_ ?_; (focus kernel_rfl); try clear hK K) | (refine thn_normal ?_; refine hK _ _ ?_; try clear hK K) | refine catch_normal ?_ | refine awp_skip_k ?_ | refine awp_ret_k ?_ | refine awp_exit_k ?_ | refine awp_block_k ?_ | (refine thn_exit ?_; try clear hK K) | (refine thn_ret ?_; try clear hK K) | refine catch_ret ?_ | refine catch_exit ?_ | (refine catch_other ?_ ?_; focus decide)) | ((with_reducible first | apply aops_guard' | apply aopsD_guard' | apply awp_cond_g); focus (simp only [go_sem, cells_enc, Ty.tc, hs]; exact rfl)) | (with_reducible first | refine gk_tt ?_ | refine gk_ff ?_ | refine ck_t ?_ | refine ck_f ?_) | ((with_reducible first | refine gk_tf ?_ | refine gk_ft ?_ | refine gk_u ?_ | refine gk_u' ?_); first | (intro _ e; (first | rw [put_some] at e | rw [put_none] at e); subst e) | (intro _ _ e e'; (first | rw [put_some] at e | rw [put_none] at e); subst e; subst e')) | ((with_reducible refine ck_s (fun h => ?_) (fun h => ?_)); all_goals ((try simp only [Bool.not_eq_true', Bool.not_eq_false'] at h); (try simp only [h, Bool.not_true, Bool.not_false]); (replace hs := And.intro h hs); clear h)) | ((with_reducible refine gk_s (fun h => ?_) (fun h => ?_)); all_goals ((try simp only [Bool.not_eq_true', Bool.not_eq_false'] at h); (try simp only [h, Bool.not_true, Bool.not_false]); (replace hs := And.intro h hs); clear h))))
  all_goals (refine retP_ret (List.range 40) rfl ?_; (try simp only [valT, hs, if_true, if_false, Bool.false_eq_true, Bool.not_true, Bool.not_false, reduceIte]); exact vwA)
end Go.Proofs.Ytbdoblgofddhdaa
/- Associated types: Normalize; looking for projections and errors. -/
set_option maxRecDepth 10000
set_option linter.unusedSimpArgs false
set_option linter.unusedVariables false
namespace Go.Proofs.Ytbdoblgofddhdaa
open Go Go.Ab
theorem cPr_eq (k id : Int) (ss : List Ty) : cPr (.mk k id ss) = if k == 10 then true else ss.any cPr := by
  have h : ∀ ss : List Ty, cPrL ss = ss.any cPr := by
    intro ss
    induction ss with
    | nil => rfl
    | cons t ts ih => simp only [cPrL, List.any_cons, ih]; cases cPr t <;> rfl
  unfold cPr; rw [h]
theorem cEr_eq (k id : Int) (ss : List Ty) : cEr (.mk k id ss) = if k == 0 then true else ss.any cEr := by
  have h : ∀ ss : List Ty, cErL ss = ss.any cEr := by
    intro ss
    induction ss with
    | nil => rfl
    | cons t ts ih => simp only [cErL, List.any_cons, ih]; cases cEr t <;> rfl
  unfold cEr; rw [h]
theorem cPr_ok : ∀ t : Ty, PCall Try.prog 31 [t.enc] (bb (cPr t))
  | .mk k id ss => by
    have hrec : ∀ t ∈ ss, PCall Try.prog 31 ([Ty.enc t] ++ []) (bb (cPr t)) := fun t ht => cPr_ok t
    have hh := hasT_ok 31 [] cPr ss hrec
    clear hrec
    refine PCall.intro (ps := [bb (cPr (.mk k id ss))]) fn31 (by simp) ?_
    rw [cPr_eq]
    unfold ac31
    simp only [argFr]
    cases hk : (k == 10) with
    | true =>
      (repeat' (first | ((with_reducible first | refine aops_cons' fun C hC => ?_ | refine aopsD_cons' fun C hC => ?_ | intro C hC); simp only [go_sem, cells_enc, Ty.tc, kdT, idT, argsT, hk]; ((with_reducible first | refine finA hC ?_ | refine finD hC ?_); clear hC C)) | (with_reducible first | refine awp_seq_k fun K hK => ?_ | refine awp_reg_k fun K hK => ?_ | refine awp_dreg_k fun K hK => ?_ | (refine aops_nil ?_; refine hK _ _ ?_; try clear hK K) | (refine aopsD_nil ?_; refine hK _ _ _ ?_ ?_; (focus kernel_rfl); try clear hK K) | (refine thn_normal ?_; refine hK _ _ ?_; try clear hK K) | refine catch_normal ?_ | refine awp_skip_k ?_ | refine awp_ret_k ?_ | refine awp_exit_k ?_ | refine awp_block_k ?_ | (refine thn_exit ?_; try clear hK K) | (refine thn_ret ?_; try clear hK K) | refine catch_ret ?_ | refine catch_exit ?_ | (refine catch_other ?_ ?_; focus decide)) | ((with_reducible first | apply aops_guard' | apply aopsD_guard' | apply awp_cond_g); focus (simp only [go_sem, cells_enc, Ty.tc, kdT, idT, argsT, hk]; exact rfl)) | (with_reducible first | refine gk_tt ?_ | refine gk_ff ?_ | refine ck_t ?_ | refine ck_f ?_) | ((with_reducible first | refine gk_tf ?_ | refine gk_ft ?_ | refine gk_u ?_ | refine gk_u' ?_); first | (intro _ e; (first | rw [put_some] at e | rw [put_none] at e); subst e) | (intro _ _ e e'; (first | rw [put_some] at e | rw [put_none] at e); subst e; subst e'))))
      (refine retP_ret (List.range 40) rfl ?_; exact vwA)
    | false =>
      (repeat' (first | ((first | (with_reducible refine aops_call fun C hC => ?_) | (with_reducible refine aopsD_call fun C hC => ?_) | ((with_reducible intro C hC); (with_reducible refine ax_call_mp ?_))); (first | (simp only [go_sem, cells_enc, Ty.tc, kdT, idT, argsT, hk]; (first | ((with_reducible apply ACall.pure0 [] (hh)); (focus (exact vwA)))))); (simp only [PV.scal, PV.scalL, if_true, Bool.and_true, Bool.and_false, Bool.false_and, Bool.true_and, frz, List.map_nil, Bool.false_eq_true, if_false, ite_self, cells_enc, Ty.tc, kdT, idT, argsT, hk]); ((with_reducible first | refine finA hC ?_ | refine finD hC ?_); clear hC C)) | ((with_reducible first | refine aops_cons' fun C hC => ?_ | refine aopsD_cons' fun C hC => ?_ | intro C hC); simp only [go_sem, cells_enc, Ty.tc, kdT, idT, argsT, hk]; ((with_reducible first | refine finA hC ?_ | refine finD hC ?_); clear hC C)) | (with_reducible first | refine awp_seq_k fun K hK => ?_ | refine awp_reg_k fun K hK => ?_ | refine awp_dreg_k fun K hK => ?_ | (refine aops_nil ?_; refine hK _ _ ?_; try clear hK K) | (refine aopsD_nil ?_; refine hK _ _ _ ?_ ?_; (focus kernel_rfl); try clear hK K) | (refine thn_normal ?_; refine hK _ _ ?_; try clear hK K) | refine catch_normal ?_ | refine awp_skip_k ?_ | refine awp_ret_k ?_ | refine awp_exit_k ?_ | refine awp_block_k ?_ | (refine thn_exit ?_; try clear hK K) | (refine thn_ret ?_; try clear hK K) | refine catch_ret ?_ | refine catch_exit ?_ | (refine catch_other ?_ ?_; focus decide)) | ((with_reducible first | apply aops_guard' | apply aopsD_guard' | apply awp_cond_g); focus (simp only [go_sem, cells_enc, Ty.tc, kdT, idT, argsT, hk]; exact rfl)) | (with_reducible first | refine gk_tt ?_ | refine gk_ff ?_ | refine ck_t ?_ | refine ck_f ?_) | ((with_reducible first | refine gk_tf ?_ | refine gk_ft ?_ | refine gk_u ?_ | refine gk_u' ?_); first | (intro _ e; (first | rw [put_some] at e | rw [put_none] at e); subst e) | (intro _ _ e e'; (first | rw [put_some] at e | rw [put_none] at e); subst e; subst e'))))
      (refine retP_ret (List.range 40) rfl ?_; exact vwA)
termination_by t => SizeOf.sizeOf t
decreasing_by
  have := List.sizeOf_lt_of_mem ht
  simp only [Ty.mk.sizeOf_spec]; omega
theorem cEr_ok : ∀ t : Ty, PCall Try.prog 33 [t.enc] (bb (cEr t))
  | .mk k id ss => by
    have hrec : ∀ t ∈ ss, PCall Try.prog 33 ([Ty.enc t] ++ []) (bb (cEr t)) := fun t ht => cEr_ok t
    have hh := hasT_ok 33 [] cEr ss hrec
    clear hrec
    refine PCall.intro (ps := [bb (cEr (.mk k id ss))]) fn33 (by simp) ?_
    rw [cEr_eq]
    unfold ac33
    simp only [argFr]
    cases hk : (k == 0) with
    | true =>
      (repeat' (first | ((with_reducible first | refine aops_cons' fun C hC => ?_ | refine aopsD_cons' fun C hC => ?_ | intro C hC); simp only [go_sem, cells_enc, Ty.tc, kdT, idT, argsT, hk]; ((with_reducible first | refine finA hC ?_ | refine finD hC ?_); clear hC C)) | (with_reducible first | refine awp_seq_k fun K hK => ?_ | refine awp_reg_k fun K hK => ?_ | refine awp_dreg_k fun K hK => ?_ | (refine aops_nil ?_; refine hK _ _ ?_; try clear hK K) | (refine aopsD_nil ?_; refine hK _ _ _ ?_ ?_; (focus kernel_rfl); try clear hK K) | (refine thn_normal ?_; refine hK _ _ ?_; try clear hK K) | refine catch_normal ?_ | refine awp_skip_k ?_ | refine awp_ret_k ?_ | refine awp_exit_k ?_ | refine awp_block_k ?_ | (refine thn_exit ?_; try clear hK K) | (refine thn_ret ?_; try clear hK K) | refine catch_ret ?_ | refine catch_exit ?_ | (refine catch_other ?_ ?_; focus decide)) | ((with_reducible first | apply aops_guard' | apply aopsD_guard' | apply awp_cond_g); focus (simp only [go_sem, cells_enc, Ty.tc, kdT, idT, argsT, hk]; exact rfl)) | (with_reducible first | refine gk_tt ?_ | refine gk_ff ?_ | refine ck_t ?_ | refine ck_f ?_) | ((with_reducible first | refine gk_tf ?_ | refine gk_ft ?_ | refine gk_u ?_ | refine gk_u' ?_); first | (intro _ e; (first | rw [put_some] at e | rw [put_none] at e); subst e) | (intro _ _ e e'; (first | rw [put_some] at e | rw [put_none] at e); subst e; subst e'))))
      (refine retP_ret (List.range 40) rfl ?_; exact vwA)
    | false =>
      (repeat' (first | ((first | (with_reducible refine aops_call fun C hC => ?_) | (with_reducible refine aopsD_call fun C hC => ?_) | ((with_reducible intro C hC); (with_reducible refine ax_call_mp ?_))); (first | (simp only [go_sem, cells_enc, Ty.tc, kdT, idT, argsT, hk]; (first | ((with_reducible apply ACall.pure0 [] (hh)); (focus (exact vwA)))))); (simp only [PV.scal, PV.scalL, if_true, Bool.and_true, Bool.and_false, Bool.false_and, Bool.true_and, frz, List.map_nil, Bool.false_eq_true, if_false, ite_self, cells_enc, Ty.tc, kdT, idT, argsT, hk]); ((with_reducible first | refine finA hC ?_ | refine finD hC ?_); clear hC C)) | ((with_reducible first | refine aops_cons' fun C hC => ?_ | refine aopsD_cons' fun C hC => ?_ | intro C hC); simp only [go_sem, cells_enc, Ty.tc, kdT, idT, argsT, hk]; ((with_reducible first | refine finA hC ?_ | refine finD hC ?_); clear hC C)) | (with_reducible first | refine awp_seq_k fun K hK => ?_ | refine awp_reg_k fun K hK => ?_ | refine awp_dreg_k fun K hK => ?_ | (refine aops_nil ?_; refine hK _ _ ?_; try clear hK K) | (refine aopsD_nil ?_; refine hK _ _ _ ?_ ?_; (focus kernel_rfl); try clear hK K) | (refine thn_normal ?_; refine hK _ _ ?_; try clear hK K) | refine catch_normal ?_ | refine awp_skip_k ?_ | refine awp_ret_k ?_ | refine awp_exit_k ?_ | refine awp_block_k ?_ | (refine thn_exit ?_; try clear hK K) | (refine thn_ret ?_; try clear hK K) | refine catch_ret ?_ | refine catch_exit ?_ | (refine catch_other ?_ ?_; focus decide)) | ((with_reducible first | apply aops_guard' | apply aopsD_guard' | apply awp_cond_g); focus (simp only [go_sem, cells_enc, Ty.tc, kdT, idT, argsT, hk]; exact rfl)) | (with_reducible first | refine gk_tt ?_ | refine gk_ff ?_ | refine ck_t ?_ | refine ck_f ?_) | ((with_reducible first | refine gk_tf ?_ | refine gk_ft ?_ | refine gk_u ?_ | refine gk_u' ?_); first | (intro _ e; (first | rw [put_some] at e | rw [put_none] at e); subst e) | (intro _ _ e e'; (first | rw [put_some] at e | rw [put_none] at e); subst e; subst e'))))
      (refine retP_ret (List.range 40) rfl ?_; exact vwA)
termination_by t => SizeOf.sizeOf t
decreasing_by
  have := List.sizeOf_lt_of_mem ht
  simp only [Ty.mk.sizeOf_spec]; omega
def Env.r (E : Env) : PV := .agg [.list 6 (encSy E.sy), E.r1, E.r2]
set_option maxHeartbeats 8000000 in
theorem norm_ok (E : Env) (t : Ty) : PCall Try.prog 30 [.agg [.list 6 (encSy E.sy), E.r1, E.r2], .list 7 (encDc E.ds), .list 4 (encTb E.az), t.enc] (NR E t).enc := by
  refine PCall.intro (ps := [(NR E t).enc]) fn30 (by simp) ?_
  generalize hR : NR E t = R
  unfold NR at hR
  unfold ac30
  simp only [argFr]
  cases hl : ((E.ds.length : Int) == (E.sy.length : Int)) with
  | false =>
    rw [hl] at hR
    simp only [Bool.not_false, if_true] at hR
    subst hR
    (repeat' (first | ((with_reducible first | refine aops_cons' fun C hC => ?_ | refine aopsD_cons' fun C hC => ?_ | intro C hC); simp only [go_sem, cells_enc, Ty.tc, encDc_len, encSy_len, bne, hl]; ((with_reducible first | refine finA hC ?_ | refine finD hC ?_); clear hC C)) | (with_reducible first | refine awp_seq_k fun K hK => ?_ | refine awp_reg_k fun K hK => ?_ | refine awp_dreg_k fun K hK => ?_ | (refine aops_nil ?_; refine hK _ _ ?_; try clear hK K) | (refine aopsD_nil ?_; refine hK _ _ _ ?_ ?_; (focus kernel_rfl); try clear hK K) | (refine thn_normal ?_; refine hK _ _ ?_; try clear hK K) | refine catch_normal ?_ | refine awp_skip_k ?_ | refine awp_ret_k ?_ | refine awp_exit_k ?_ | refine awp_block_k ?_ | (refine thn_exit ?_; try clear hK K) | (refine thn_ret ?_; try clear hK K) | refine catch_ret ?_ | refine catch_exit ?_ | (refine catch_other ?_ ?_; focus decide)) | ((with_reducible first | apply aops_guard' | apply aopsD_guard' | apply awp_cond_g); focus (simp only [go_sem, cells_enc, Ty.tc, encDc_len, encSy_len, bne, hl]; exact rfl)) | (with_reducible first | refine gk_tt ?_ | refine gk_ff ?_ | refine ck_t ?_ | refine ck_f ?_) | ((with_reducible first | refine gk_tf ?_ | refine gk_ft ?_ | refine gk_u ?_ | refine gk_u' ?_); first | (intro _ e; (first | rw [put_some] at e | rw [put_none] at e); subst e) | (intro _ _ e e'; (first | rw [put_some] at e | rw [put_none] at e); subst e; subst e'))))
    refine retP_ret (List.range 40) rfl (.cons _ _ _ _ ?_ .nil)
    exact .agg _ _ (.cons _ _ _ _ (.pv _) (.cons _ _ _ _ (.pv _) (.cons _ _ _ _ Vw_nil .nil)))
  | true =>
    rw [hl] at hR
    simp only [Bool.not_true, Bool.false_eq_true, if_false] at hR
    have hlen : E.ds.length = E.sy.length := by have : (E.ds.length : Int) = E.sy.length := by simpa using hl
                                                omega
    have hc : MCall Try.prog 89 [.ptr 0 0 0, .pv t.enc, .pv (ii 8)] [some (nbk E false)] (.agg (Ty.tc (nrmT (prj E 8) t false).1)) [some (nbk E (nrmT (prj E 8) t false).2)] := nrm_ok E hlen 8 (by omega) t false
    generalize nrmT (prj E 8) t false = X at hc hR
    have hv := valid_ok X.1
    rw [enc3 X.1] at hv
    (repeat' (first | ((with_reducible first | refine aops_cons' fun C hC => ?_ | refine aopsD_cons' fun C hC => ?_ | intro C hC); simp only [go_sem, cells_enc, Ty.tc, encDc_len, encSy_len, bne, hl]; ((with_reducible first | refine finA hC ?_ | refine finD hC ?_); clear hC C)) | (with_reducible first | refine awp_seq_k fun K hK => ?_ | refine awp_reg_k fun K hK => ?_ | refine awp_dreg_k fun K hK => ?_ | (refine aops_nil ?_; refine hK _ _ ?_; try clear hK K) | (refine aopsD_nil ?_; refine hK _ _ _ ?_ ?_; (focus kernel_rfl); try clear hK K) | (refine thn_normal ?_; refine hK _ _ ?_; try clear hK K) | refine catch_normal ?_ | refine awp_skip_k ?_ | refine awp_ret_k ?_ | refine awp_exit_k ?_ | refine awp_block_k ?_ | (refine thn_exit ?_; try clear hK K) | (refine thn_ret ?_; try clear hK K) | refine catch_ret ?_ | refine catch_exit ?_ | (refine catch_other ?_ ?_; focus decide)) | ((with_reducible first | apply aops_guard' | apply aopsD_guard' | apply awp_cond_g); focus (simp only [go_sem, cells_enc, Ty.tc, encDc_len, encSy_len, bne, hl]; exact rfl)) | (with_reducible first | refine gk_tt ?_ | refine gk_ff ?_ | refine ck_t ?_ | refine ck_f ?_) | ((with_reducible first | refine gk_tf ?_ | refine gk_ft ?_ | refine gk_u ?_ | refine gk_u' ?_); first | (intro _ e; (first | rw [put_some] at e | rw [put_none] at e); subst e) | (intro _ _ e e'; (first | rw [put_some] at e | rw [put_none] at e); subst e; subst e'))))
    refine aops_call fun C hC => ?_
    simp only [go_sem]
    refine ACall.heap [3] hc rfl (by decide) (by decide) (VM.eq (.ptr 0 0 0) _ _ (VM.pv (.agg [.pv (ii t.kd), .pv (ii t.id), .pv (.list 3 (encL t.args))]) _ _ _ (by rw [enc3]; exact .agg _ _ (.cons _ _ _ _ (.pv _) (.cons _ _ _ _ (.pv _) (.cons _ _ _ _ (.pv _) .nil)))) (VM.eq (.pv (ii 8)) _ _ .nil))) (hhN rfl) ?_
    simp only [V.ren, V.renL, outD, outB, rho0, hget_zero, hget_succ, Option.map_some, Option.bind_some, nbk, Ty.tc, List.map_cons, List.map_nil]
    (with_reducible refine finA hC ?_); clear hC C
    cases hx : X.2 with
    | true =>
      rw [hx] at hR
      simp only [if_true] at hR
      subst hR
      (repeat' (first | ((with_reducible first | refine aops_cons' fun C hC => ?_ | refine aopsD_cons' fun C hC => ?_ | intro C hC); simp only [go_sem, hx]; ((with_reducible first | refine finA hC ?_ | refine finD hC ?_); clear hC C)) | (with_reducible first | refine awp_seq_k fun K hK => ?_ | refine awp_reg_k fun K hK => ?_ | refine awp_dreg_k fun K hK => ?_ | (refine aops_nil ?_; refine hK _ _ ?_; try clear hK K) | (refine aopsD_nil ?_; refine hK _ _ _ ?_ ?_; (focus kernel_rfl); try clear hK K) | (refine thn_normal ?_; refine hK _ _ ?_; try clear hK K) | refine catch_normal ?_ | refine awp_skip_k ?_ | refine awp_ret_k ?_ | refine awp_exit_k ?_ | refine awp_block_k ?_ | (refine thn_exit ?_; try clear hK K) | (refine thn_ret ?_; try clear hK K) | refine catch_ret ?_ | refine catch_exit ?_ | (refine catch_other ?_ ?_; focus decide)) | ((with_reducible first | apply aops_guard' | apply aopsD_guard' | apply awp_cond_g); focus (simp only [go_sem, hx]; exact rfl)) | (with_reducible first | refine gk_tt ?_ | refine gk_ff ?_ | refine ck_t ?_ | refine ck_f ?_) | ((with_reducible first | refine gk_tf ?_ | refine gk_ft ?_ | refine gk_u ?_ | refine gk_u' ?_); first | (intro _ e; (first | rw [put_some] at e | rw [put_none] at e); subst e) | (intro _ _ e e'; (first | rw [put_some] at e | rw [put_none] at e); subst e; subst e'))))
      refine retP_ret (List.range 40) rfl (.cons _ _ _ _ ?_ .nil)
      exact .agg _ _ (.cons _ _ _ _ (.pv _) (.cons _ _ _ _ (.pv _) (.cons _ _ _ _ Vw_nil .nil)))
    | false =>
      rw [hx] at hR
      simp only [Bool.false_eq_true, if_false] at hR
      cases h2 : (valT X.1 == 2) with
      | true =>
        rw [h2, if_pos rfl] at hR
        subst hR
        (repeat' (first | ((first | (with_reducible refine aops_call fun C hC => ?_) | (with_reducible refine aopsD_call fun C hC => ?_) | ((with_reducible intro C hC); (with_reducible refine ax_call_mp ?_))); (first | (simp only [go_sem, hx, h2]; (first | ((with_reducible apply ACall.pure0 [] (hv)); (focus (exact vwA)))))); (simp only [PV.scal, PV.scalL, if_true, Bool.and_true, Bool.and_false, Bool.false_and, Bool.true_and, frz, List.map_nil, Bool.false_eq_true, if_false, ite_self, hx, h2]); ((with_reducible first | refine finA hC ?_ | refine finD hC ?_); clear hC C)) | ((with_reducible first | refine aops_cons' fun C hC => ?_ | refine aopsD_cons' fun C hC => ?_ | intro C hC); simp only [go_sem, hx, h2]; ((with_reducible first | refine finA hC ?_ | refine finD hC ?_); clear hC C)) | (with_reducible first | refine awp_seq_k fun K hK => ?_ | refine awp_reg_k fun K hK => ?_ | refine awp_dreg_k fun K hK => ?_ | (refine aops_nil ?_; refine hK _ _ ?_; try clear hK K) | (refine aopsD_nil ?_; refine hK _ _ _ ?_ ?_; (focus kernel_rfl); try clear hK K) | (refine thn_normal ?_; refine hK _ _ ?_; try clear hK K) | refine catch_normal ?_ | refine awp_skip_k ?_ | refine awp_ret_k ?_ | refine awp_exit_k ?_ | refine awp_block_k ?_ | (refine thn_exit ?_; try clear hK K) | (refine thn_ret ?_; try clear hK K) | refine catch_ret ?_ | refine catch_exit ?_ | (refine catch_other ?_ ?_; focus decide)) | ((with_reducible first | apply aops_guard' | apply aopsD_guard' | apply awp_cond_g); focus (simp only [go_sem, hx, h2]; exact rfl)) | (with_reducible first | refine gk_tt ?_ | refine gk_ff ?_ | refine ck_t ?_ | refine ck_f ?_) | ((with_reducible first | refine gk_tf ?_ | refine gk_ft ?_ | refine gk_u ?_ | refine gk_u' ?_); first | (intro _ e; (first | rw [put_some] at e | rw [put_none] at e); subst e) | (intro _ _ e e'; (first | rw [put_some] at e | rw [put_none] at e); subst e; subst e'))))
        refine retP_ret (List.range 40) rfl (.cons _ _ _ _ ?_ .nil)
        exact .agg _ _ (.cons _ _ _ _ (.pv _) (.cons _ _ _ _ (.pv _) (.cons _ _ _ _ Vw_nil .nil)))
      | false =>
        rw [h2, if_neg (by simp)] at hR
        subst hR
        (repeat' (first | ((first | (with_reducible refine aops_call fun C hC => ?_) | (with_reducible refine aopsD_call fun C hC => ?_) | ((with_reducible intro C hC); (with_reducible refine ax_call_mp ?_))); (first | (simp only [go_sem, hx, h2]; (first | ((with_reducible apply ACall.pure0 [] (hv)); (focus (exact vwA)))))); (simp only [PV.scal, PV.scalL, if_true, Bool.and_true, Bool.and_false, Bool.false_and, Bool.true_and, frz, List.map_nil, Bool.false_eq_true, if_false, ite_self, hx, h2]); ((with_reducible first | refine finA hC ?_ | refine finD hC ?_); clear hC C)) | ((with_reducible first | refine aops_cons' fun C hC => ?_ | refine aopsD_cons' fun C hC => ?_ | intro C hC); simp only [go_sem, hx, h2]; ((with_reducible first | refine finA hC ?_ | refine finD hC ?_); clear hC C)) | (with_reducible first | refine awp_seq_k fun K hK => ?_ | refine awp_reg_k fun K hK => ?_ | refine awp_dreg_k fun K hK => ?_ | (refine aops_nil ?_; refine hK _ _ ?_; try clear hK K) | (refine aopsD_nil ?_; refine hK _ _ _ ?_ ?_; (focus kernel_rfl); try clear hK K) | (refine thn_normal ?_; refine hK _ _ ?_; try clear hK K) | refine catch_normal ?_ | refine awp_skip_k ?_ | refine awp_ret_k ?_ | refine awp_exit_k ?_ | refine awp_block_k ?_ | (refine thn_exit ?_; try clear hK K) | (refine thn_ret ?_; try clear hK K) | refine catch_ret ?_ | refine catch_exit ?_ | (refine catch_other ?_ ?_; focus decide)) | ((with_reducible first | apply aops_guard' | apply aopsD_guard' | apply awp_cond_g); focus (simp only [go_sem, hx, h2]; exact rfl)) | (with_reducible first | refine gk_tt ?_ | refine gk_ff ?_ | refine ck_t ?_ | refine ck_f ?_) | ((with_reducible first | refine gk_tf ?_ | refine gk_ft ?_ | refine gk_u ?_ | refine gk_u' ?_); first | (intro _ e; (first | rw [put_some] at e | rw [put_none] at e); subst e) | (intro _ _ e e'; (first | rw [put_some] at e | rw [put_none] at e); subst e; subst e'))))
        refine retP_ret (List.range 40) rfl (.cons _ _ _ _ ?_ .nil)
        rw [enc3]
        exact .agg _ _ (.cons _ _ _ _ (.pv _) (.cons _ _ _ _ (.pv _) (.cons _ _ _ _ (.pv _) .nil)))
/-! ### the examples -/
def nIter : ByteArray := ⟨#[73, 116, 101, 114]⟩
def nItem : ByteArray := ⟨#[73, 116, 101, 109]⟩
def exSy : List Sy := [⟨5, 0, 0, -1, nIter, bb false⟩, ⟨13, 0, 0, 0, nItem, bb false⟩, ⟨6, 0, 0, -1, ⟨#[]⟩, bb false⟩, ⟨13, 0, 0, 2, nItem, bb false⟩]
def exDn : List Dc := [⟨[], .mk 0 0 [], -1, [], nl⟩, ⟨[], .mk 0 0 [], -1, [], nl⟩, ⟨[], .mk 3 0 [], 0, [], nl⟩, ⟨[], .mk 4 0 [], -1, [], nl⟩]
def exEa : Env := ⟨exSy, nl, nl, exDn, []⟩
def exEb : Env := ⟨exSy, nl, nl, exDn, [⟨.mk 2 7 [], 0⟩]⟩
def exRig : Ty := .mk 10 1 [.mk 2 7 []]
theorem exNa : NR exEa (.mk 8 0 [.mk 10 1 [.mk 3 0 []]]) = .mk 8 0 [.mk 4 0 []] := by kernel_rfl
theorem exNb : NR exEb exRig = exRig := by kernel_rfl
set_option maxHeartbeats 8000000 in
theorem iter_ok : PCall Try.prog 87 [] (.tup [.agg [.list 6 (encSy exSy), nl, nl], .list 7 (encDc exDn)]) := by
  refine PCall.intro (ps := [.agg [.list 6 (encSy exSy), nl, nl], .list 7 (encDc exDn)]) fn87 (by simp) ?_
  unfold ac87
  simp only [argFr]
  (repeat' (first | ((first | (with_reducible refine aops_call fun C hC => ?_) | (with_reducible refine aopsD_call fun C hC => ?_) | ((with_reducible intro C hC); (with_reducible refine ax_call_mp ?_))); (first | (simp only [go_sem, cells_enc, Ty.tc, scal_enc, kdT, idT, argsT]; (first | ((with_reducible apply ACall.pure0 [] (tint_ok)); (focus (exact vwA))) | ((with_reducible apply ACall.pure0 [] (typ_ok 4 0 [])); (focus (exact vwA)))))); (simp only [PV.scal, PV.scalL, if_true, Bool.and_true, Bool.and_false, Bool.false_and, Bool.true_and, frz, List.map_nil, Bool.false_eq_true, if_false, ite_self, cells_enc, Ty.tc, scal_enc, kdT, idT, argsT]); ((with_reducible first | refine finA hC ?_ | refine finD hC ?_); clear hC C)) | ((with_reducible first | refine aops_cons' fun C hC => ?_ | refine aopsD_cons' fun C hC => ?_ | intro C hC); simp only [go_sem, cells_enc, Ty.tc, scal_enc, kdT, idT, argsT]; ((with_reducible first | refine finA hC ?_ | refine finD hC ?_); clear hC C)) | (with_reducible first | refine awp_seq_k fun K hK => ?_ | refine awp_reg_k fun K hK => ?_ | refine awp_dreg_k fun K hK => ?_ | (refine aops_nil ?_; refine hK _ _ ?_; try clear hK K) | (refine aopsD_nil ?_; refine hK _ _ _ ?_ ?_; (focus kernel_rfl); try clear hK K) | (refine thn_normal ?_; refine hK _ _ ?_; try clear hK K) | refine catch_normal ?_ | refine awp_skip_k ?_ | refine awp_ret_k ?_ | refine awp_exit_k ?_ | refine awp_block_k ?_ | (refine thn_exit ?_; try clear hK K) | (refine thn_ret ?_; try clear hK K) | refine catch_ret ?_ | refine catch_exit ?_ | (refine catch_other ?_ ?_; focus decide)) | ((with_reducible first | apply aops_guard' | apply aopsD_guard' | apply awp_cond_g); focus (simp only [go_sem, cells_enc, Ty.tc, scal_enc, kdT, idT, argsT]; exact rfl)) | (with_reducible first | refine gk_tt ?_ | refine gk_ff ?_ | refine ck_t ?_ | refine ck_f ?_) | ((with_reducible first | refine gk_tf ?_ | refine gk_ft ?_ | refine gk_u ?_ | refine gk_u' ?_); first | (intro _ e; (first | rw [put_some] at e | rw [put_none] at e); subst e) | (intro _ _ e e'; (first | rw [put_some] at e | rw [put_none] at e); subst e; subst e'))))
  (refine retP_ret (List.range 40) rfl ?_; (try simp only [encSy, exSy, Sy.enc, encDc, exDn, Dc.enc, encI, encTb, encL, nl, nIter, nItem, kdT, idT, argsT, List.map_cons, List.map_nil, if_true, if_false, Bool.false_eq_true, Bool.not_true, Bool.not_false]); exact vwA)
set_option maxHeartbeats 8000000 in
theorem awork_ok : PCall Try.prog 29 [] (bb true) := by
  have hA : PCall Try.prog 30 [.agg [.list 6 (encSy exSy), nl, nl], .list 7 (encDc exDn), .list 4 (encTb []), (Ty.mk 8 0 [.mk 10 1 [.mk 3 0 []]]).enc] (Ty.mk 8 0 [.mk 4 0 []]).enc := by
    have := norm_ok exEa (.mk 8 0 [.mk 10 1 [.mk 3 0 []]])
    rwa [exNa] at this
  have hB : PCall Try.prog 30 [.agg [.list 6 (encSy exSy), nl, nl], .list 7 (encDc exDn), .list 4 [.agg [ii 2, ii 7, .list 3 [], ii 0]], exRig.enc] exRig.enc := by
    have := norm_ok exEb exRig
    rwa [exNb] at this
  have q1 := equal_ok (.mk 8 0 [.mk 4 0 []]) (.mk 8 0 [.mk 4 0 []])
  have q2 := equal_ok exRig exRig
  rw [eqT_self] at q1 q2
  refine PCall.intro (ps := [bb true]) fn29 (by simp) ?_
  unfold ac29
  simp only [argFr]
  (repeat' (first | ((first | (with_reducible refine aops_call fun C hC => ?_) | (with_reducible refine aopsD_call fun C hC => ?_) | ((with_reducible intro C hC); (with_reducible refine ax_call_mp ?_))); (first | (simp only [go_sem, cells_enc, Ty.tc, scal_enc, kdT, idT, argsT]; (first | ((with_reducible apply ACall.pure0 [] (iter_ok)); (focus (exact vwA))) | ((with_reducible apply ACall.pure0 [] (tint_ok)); (focus (exact vwA))) | ((with_reducible apply ACall.pure0 [4] (typ_ok 10 1 [.mk 3 0 []])); (focus (exact vwA))) | ((with_reducible apply ACall.pure0 [6] (typ_ok 8 0 [.mk 10 1 [.mk 3 0 []]])); (focus (exact vwA))) | ((with_reducible apply ACall.pure0 [] (hA)); (focus (exact vwA))) | ((with_reducible apply ACall.pure0 [10] (typ_ok 10 1 [.mk 2 7 []])); (focus (exact vwA))) | ((with_reducible apply ACall.pure0 [16] (hB)); (focus (exact vwA))) | ((with_reducible apply ACall.pure0 [] (tpar_ok 7)); (focus (exact vwA))) | ((with_reducible apply ACall.pure0 [] (typ_ok 4 0 [])); (focus (exact vwA))) | ((with_reducible apply ACall.pure0 [22] (typ_ok 8 0 [.mk 4 0 []])); (focus (exact vwA))) | ((with_reducible apply ACall.pure0 [] (q1)); (focus (exact vwA))) | ((with_reducible apply ACall.pure0 [] (q2)); (focus (exact vwA)))))); (simp only [PV.scal, PV.scalL, if_true, Bool.and_true, Bool.and_false, Bool.false_and, Bool.true_and, frz, List.map_nil, Bool.false_eq_true, if_false, ite_self, go_sem, cells_enc, Ty.tc, scal_enc, kdT, idT, argsT]); ((with_reducible first | refine finA hC ?_ | refine finD hC ?_); clear hC C)) | ((with_reducible first | refine aops_cons' fun C hC => ?_ | refine aopsD_cons' fun C hC => ?_ | intro C hC); simp only [go_sem, cells_enc, Ty.tc, scal_enc, kdT, idT, argsT]; ((with_reducible first | refine finA hC ?_ | refine finD hC ?_); clear hC C)) | (with_reducible first | refine awp_seq_k fun K hK => ?_ | refine awp_reg_k fun K hK => ?_ | refine awp_dreg_k fun K hK => ?_ | (refine aops_nil ?_; refine hK _ _ ?_; try clear hK K) | (refine aopsD_nil ?_; refine hK _ _ _ ?_ ?_; (focus kernel_rfl); try clear hK K) | (refine thn_normal ?_; refine hK _ _ ?_; try clear hK K) | refine catch_normal ?_ | refine awp_skip_k ?_ | refine awp_ret_k ?_ | refine awp_exit_k ?_ | refine awp_block_k ?_ | (refine thn_exit ?_; try clear hK K) | (refine thn_ret ?_; try clear hK K) | refine catch_ret ?_ | refine catch_exit ?_ | (refine catch_other ?_ ?_; focus decide)) | ((with_reducible first | apply aops_guard' | apply aopsD_guard' | apply awp_cond_g); focus (simp only [go_sem, cells_enc, Ty.tc, scal_enc, kdT, idT, argsT]; exact rfl)) | (with_reducible first | refine gk_tt ?_ | refine gk_ff ?_ | refine ck_t ?_ | refine ck_f ?_) | ((with_reducible first | refine gk_tf ?_ | refine gk_ft ?_ | refine gk_u ?_ | refine gk_u' ?_); first | (intro _ e; (first | rw [put_some] at e | rw [put_none] at e); subst e) | (intro _ _ e e'; (first | rw [put_some] at e | rw [put_none] at e); subst e; subst e'))))
  (refine retP_ret (List.range 40) rfl ?_; exact vwA)
end Go.Proofs.Ytbdoblgofddhdaa
