/- B1: joined from O8. -/
import Derived.Test.YtgphapkpoamcgaaDoorFnP
import Derived.Test.YtgphapkpoamcgaaDoorA9
/- The example; law 21's function. -/
set_option maxRecDepth 10000
set_option linter.unusedSimpArgs false
set_option linter.unusedVariables false
namespace Go.Proofs.YtgphapkpoamcgaaDoor
open Go Go.Ab
def exS : List UInt8 := [97, 10, 240, 159, 152, 128, 98]
theorem ex1 : toPos true exS 6 = (1, 2, 0) := by decide +kernel
theorem ex2 : toOff true exS 1 1 = (0, 3) := by decide +kernel
set_option maxHeartbeats 4000000 in
theorem example_ok : PCall Tryd.prog 4 [] (bb true) := by
  have h1 := u16pos_ok exS 6 (by decide)
  have h2 := u16off_ok exS 1 1 (by decide)
  rw [ex1] at h1
  rw [ex2] at h2
  have h1 : PCall Tryd.prog 9 [.lit (.string ⟨#[97, 10, 240, 159, 152, 128, 98]⟩), ii 6] (.tup [p2 1 2, ii 0]) := h1
  have h2 : PCall Tryd.prog 12 [.lit (.string ⟨#[97, 10, 240, 159, 152, 128, 98]⟩), .agg [ii 1, ii 1]] (.tup [ii 0, ii 3]) := h2
  refine PCall.intro (ps := [bb true]) fn4 (by simp) ?_
  unfold ac4
  simp only [argFr]
  (repeat' (first | ((first | (with_reducible refine aops_call fun C hC => ?_) | (with_reducible refine aopsD_call fun C hC => ?_) | ((with_reducible intro C hC); (with_reducible refine ax_call_mp ?_))); (first | (simp only [go_sem, spl, vc_agg, c0, c1x, c2x, Bool.and_self, bne, Bool.not_true, beq_self_eq_true]; (first | ((with_reducible apply ACall.pure0 [] (h1)); (focus (exact vwA))) | ((with_reducible apply ACall.pure0 [] (h2)); (focus (exact vwA)))))); (simp only [PV.scal, PV.scalL, if_true, Bool.and_true, Bool.and_false, Bool.false_and, Bool.true_and, frz, List.map_nil, Bool.false_eq_true, if_false, ite_self, spl, vc_agg, c0, c1x, c2x, Bool.and_self, bne, Bool.not_true, beq_self_eq_true]); ((with_reducible first | refine finA hC ?_ | refine finD hC ?_); clear hC C)) | ((with_reducible first | refine aops_cons' fun C hC => ?_ | refine aopsD_cons' fun C hC => ?_ | intro C hC); simp only [go_sem, spl, vc_agg, c0, c1x, c2x, Bool.and_self, bne, Bool.not_true, beq_self_eq_true]; ((with_reducible first | refine finA hC ?_ | refine finD hC ?_); clear hC C)) | (with_reducible first | refine awp_seq_k fun K hK => ?_ | refine awp_reg_k fun K hK => ?_ | refine awp_dreg_k fun K hK => ?_ | (refine aops_nil ?_; refine hK _ _ ?_; try clear hK K) | (refine aopsD_nil ?_; refine hK _ _ _ ?_ ?_; (focus kernel_rfl); try clear hK K) | (refine thn_normal ?_; refine hK _ _ ?_; try clear hK K) | refine catch_normal ?_ | refine awp_skip_k ?_ | refine awp_ret_k ?_ | refine awp_exit_k ?_ | refine awp_block_k ?_ | (refine thn_exit ?_; try clear hK K) | (refine thn_ret ?_; try clear hK K) | refine catch_ret ?_ | refine catch_exit ?_ | (refine catch_other ?_ ?_; focus decide)) | ((with_reducible first | apply aops_guard' | apply aopsD_guard' | apply awp_cond_g); focus (simp only [go_sem, spl, vc_agg, c0, c1x, c2x, Bool.and_self, bne, Bool.not_true, beq_self_eq_true]; exact rfl)) | (with_reducible first | refine gk_tt ?_ | refine gk_ff ?_ | refine ck_t ?_ | refine ck_f ?_) | ((with_reducible first | refine gk_tf ?_ | refine gk_ft ?_ | refine gk_u ?_ | refine gk_u' ?_); first | (intro _ e; (first | rw [put_some] at e | rw [put_none] at e); subst e) | (intro _ _ e e'; (first | rw [put_some] at e | rw [put_none] at e); subst e; subst e'))))
  (refine retP_ret (List.range 40) rfl ?_; exact vwA)
set_option maxHeartbeats 8000000 in
theorem law3_ok (l0 : List UInt8) (off j t : Int) : PCall Tryd.prog 3 [sb l0, ii off, .agg [ii j, ii t]] (bb true) := by
  have hs := short_ok l0
  have hl : (l0.take 300).length ≤ 300 := by rw [List.length_take]; omega
  generalize l0.take 300 = l at *
  have c4 := example_ok
  have c7 := ls_ok l (by omega)
  have c8 := rls_ok l (by omega)
  have c6 := eqlN_ok (starts l)
  have c9 := u16pos_ok l off (by omega)
  have c11 := rpos_ok l off (by omega)
  have d1 := po_ok true l off (by omega)
  have d2 := po_ok false l off (by omega)
  rw [pos_eq] at d1 d2
  have c12 := u16off_ok l j t (by omega)
  have c14 := roff_ok l j t (by omega)
  have g1 := oo_ok true l j t (by omega)
  have g2 := oo_ok false l j t (by omega)
  rw [off_eq] at g1 g2
  generalize starts l = S at *
  generalize toPos true l off = A at *
  generalize toPos false l off = B at *
  generalize toOff true l j t = C at *
  generalize toOff false l j t = D at *
  obtain ⟨A1, A2, A3⟩ := A
  obtain ⟨B1, B2, B3⟩ := B
  obtain ⟨C1, C2⟩ := C
  obtain ⟨D1, D2⟩ := D
  simp only [t3, t2, p2] at c9 c11 d1 d2 c12 c14 g1 g2
  refine PCall.intro (ps := [bb true]) fn3 (by simp) ?_
  unfold ac3
  simp only [argFr]
  (repeat' (first | ((first | (with_reducible refine aops_call fun C hC => ?_) | (with_reducible refine aopsD_call fun C hC => ?_) | ((with_reducible intro C hC); (with_reducible refine ax_call_mp ?_))); (first | (simp only [go_sem, spl, vc_agg, bne, beq_self_eq_true, Bool.not_true, Bool.and_self]; (first | ((with_reducible apply ACall.pure0 [] (c4)); (focus (exact vwA))) | ((with_reducible apply ACall.pure0 [] (hs)); (focus (exact vwA))) | ((with_reducible apply ACall.pure0 [] (c7)); (focus (exact vwA))) | ((with_reducible apply ACall.pure0 [] (c8)); (focus (exact vwA))) | ((with_reducible apply ACall.pure0 [] (c6)); (focus (exact vwA))) | ((with_reducible apply ACall.pure0 [] (c9)); (focus (exact vwA))) | ((with_reducible apply ACall.pure0 [] (c11)); (focus (exact vwA))) | ((with_reducible apply ACall.pure0 [] (d1)); (focus (exact vwA))) | ((with_reducible apply ACall.pure0 [] (d2)); (focus (exact vwA))) | ((with_reducible apply ACall.pure0 [] (c12)); (focus (exact vwA))) | ((with_reducible apply ACall.pure0 [] (c14)); (focus (exact vwA))) | ((with_reducible apply ACall.pure0 [] (g1)); (focus (exact vwA))) | ((with_reducible apply ACall.pure0 [] (g2)); (focus (exact vwA)))))); (simp only [PV.scal, PV.scalL, if_true, Bool.and_true, Bool.and_false, Bool.false_and, Bool.true_and, frz, List.map_nil, Bool.false_eq_true, if_false, ite_self, spl, vc_agg, bne, beq_self_eq_true, Bool.not_true, Bool.and_self]); ((with_reducible first | refine finA hC ?_ | refine finD hC ?_); clear hC C)) | ((with_reducible first | refine aops_cons' fun C hC => ?_ | refine aopsD_cons' fun C hC => ?_ | intro C hC); simp only [go_sem, spl, vc_agg, bne, beq_self_eq_true, Bool.not_true, Bool.and_self]; ((with_reducible first | refine finA hC ?_ | refine finD hC ?_); clear hC C)) | (with_reducible first | refine awp_seq_k fun K hK => ?_ | refine awp_reg_k fun K hK => ?_ | refine awp_dreg_k fun K hK => ?_ | (refine aops_nil ?_; refine hK _ _ ?_; try clear hK K) | (refine aopsD_nil ?_; refine hK _ _ _ ?_ ?_; (focus kernel_rfl); try clear hK K) | (refine thn_normal ?_; refine hK _ _ ?_; try clear hK K) | refine catch_normal ?_ | refine awp_skip_k ?_ | refine awp_ret_k ?_ | refine awp_exit_k ?_ | refine awp_block_k ?_ | (refine thn_exit ?_; try clear hK K) | (refine thn_ret ?_; try clear hK K) | refine catch_ret ?_ | refine catch_exit ?_ | (refine catch_other ?_ ?_; focus decide)) | ((with_reducible first | apply aops_guard' | apply aopsD_guard' | apply awp_cond_g); focus (simp only [go_sem, spl, vc_agg, bne, beq_self_eq_true, Bool.not_true, Bool.and_self]; exact rfl)) | (with_reducible first | refine gk_tt ?_ | refine gk_ff ?_ | refine ck_t ?_ | refine ck_f ?_) | ((with_reducible first | refine gk_tf ?_ | refine gk_ft ?_ | refine gk_u ?_ | refine gk_u' ?_); first | (intro _ e; (first | rw [put_some] at e | rw [put_none] at e); subst e) | (intro _ _ e e'; (first | rw [put_some] at e | rw [put_none] at e); subst e; subst e'))))
  (refine retP_ret (List.range 40) rfl ?_; exact vwA)
end Go.Proofs.YtgphapkpoamcgaaDoor
