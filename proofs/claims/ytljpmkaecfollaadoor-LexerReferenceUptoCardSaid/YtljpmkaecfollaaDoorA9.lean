/- A9: joined from L9. -/
import Derived.Test.YtljpmkaecfollaaDoorFnL
import Derived.Test.YtljpmkaecfollaaDoorA8
/- The law's function. -/
set_option maxRecDepth 10000
set_option linter.unusedSimpArgs false
set_option linter.unusedVariables false
namespace Go.Proofs.YtljpmkaecfollaaDoor
open Go Go.Ab
theorem vwR {p : Prop} (h : p := by (repeat (first | exact .nil | exact .pv _ | exact Vw_nil | (refine .cons _ _ _ _ ?_ ?_) | (refine .agg _ _ ?_) | (refine row_K ?_ rfl rfl; (focus (decide))))); first | done | fail) : p := h
theorem exT : tkz [97, 47, 47, 98] = [⟨103, [97]⟩, ⟨102, [47, 47, 98]⟩] := by kernel_rfl
theorem exI1 : idP [97, 95, 49] = true := by kernel_rfl
theorem exI2 : idP [117, 115, 101] = false := by kernel_rfl
theorem example_ok : PCall Tryd.prog 4 [] (bb true) := by
  have h1 := tokenize_ok [97, 47, 47, 98] (by simp)
  rw [show decide (((([97, 47, 47, 98] : List UInt8).length : Nat) : Int) > 2000) = false by decide, if_neg (by simp), if_neg (by simp), exT] at h1
  have h2 := isIdent_ok [97, 95, 49] (by simp)
  rw [exI1] at h2
  have h3 := isIdent_ok [117, 115, 101] (by simp)
  rw [exI2] at h3
  have h4 := eqK_ok [⟨103, [97]⟩, ⟨102, [47, 47, 98]⟩]
  refine PCall.intro (ps := [bb true]) fn4 (by simp) ?_
  unfold ac4
  simp only [argFr]
  (repeat' (first | ((first | (with_reducible refine aops_call fun C hC => ?_) | (with_reducible refine aopsD_call fun C hC => ?_) | ((with_reducible intro C hC); (with_reducible refine ax_call_mp ?_))); (first | (simp only [go_sem, vc_agg, beq_self_eq_true]; (first | ((with_reducible apply ACall.pure0 [] (h1)); (focus ((first | exact vwA | exact vwR)))) | ((with_reducible apply ACall.pure0 [] (h2)); (focus ((first | exact vwA | exact vwR)))) | ((with_reducible apply ACall.pure0 [] (h3)); (focus ((first | exact vwA | exact vwR)))) | ((with_reducible apply ACall.pure0 [0] (h4)); (focus ((first | exact vwA | exact vwR))))))); (simp only [PV.scal, PV.scalL, if_true, Bool.and_true, Bool.and_false, Bool.false_and, Bool.true_and, frz, List.map_nil, Bool.false_eq_true, if_false, ite_self, go_sem, vc_agg, beq_self_eq_true]); ((with_reducible first | refine finA hC ?_ | refine finD hC ?_); clear hC C)) | ((with_reducible first | refine aops_cons' fun C hC => ?_ | refine aopsD_cons' fun C hC => ?_ | intro C hC); simp only [go_sem, vc_agg, beq_self_eq_true]; ((with_reducible first | refine finA hC ?_ | refine finD hC ?_); clear hC C)) | (with_reducible first | refine awp_seq_k fun K hK => ?_ | refine awp_reg_k fun K hK => ?_ | refine awp_dreg_k fun K hK => ?_ | (refine aops_nil ?_; refine hK _ _ ?_; try clear hK K) | (refine aopsD_nil ?_; refine hK _ _ _ ?_ ?_; (focus kernel_rfl); try clear hK K) | (refine thn_normal ?_; refine hK _ _ ?_; try clear hK K) | refine catch_normal ?_ | refine awp_skip_k ?_ | refine awp_ret_k ?_ | refine awp_exit_k ?_ | refine awp_block_k ?_ | (refine thn_exit ?_; try clear hK K) | (refine thn_ret ?_; try clear hK K) | refine catch_ret ?_ | refine catch_exit ?_ | (refine catch_other ?_ ?_; focus decide)) | ((with_reducible first | apply aops_guard' | apply aopsD_guard' | apply awp_cond_g); focus (simp only [go_sem, vc_agg, beq_self_eq_true]; exact rfl)) | (with_reducible first | refine gk_tt ?_ | refine gk_ff ?_ | refine ck_t ?_ | refine ck_f ?_) | ((with_reducible first | refine gk_tf ?_ | refine gk_ft ?_ | refine gk_u ?_ | refine gk_u' ?_); first | (intro _ e; (first | rw [put_some] at e | rw [put_none] at e); subst e) | (intro _ _ e e'; (first | rw [put_some] at e | rw [put_none] at e); subst e; subst e'))))
  (refine retP_ret (List.range 40) rfl ?_; (first | exact vwA | exact vwR))
theorem toks_pos {n : Nat} {l : List UInt8} (h : l ≠ []) (hn : l.length ≤ n) : toksF n l ≠ [] := by
  cases l with
  | nil => exact absurd rfl h
  | cons c r =>
    cases n with
    | zero => simp at hn
    | succ n => simp [toksF]
theorem id_spec (l : List UInt8) : idP l = match tkz l with
    | [t] => (t.k == 103) && decide ((l.length : Int) ≤ 30)
    | _ => false := by
  cases l with
  | nil => rfl
  | cons c r =>
    obtain ⟨_, h1, h2⟩ := fst_tok c r
    have e : tkz (c :: r) = ⟨(tokR (c :: r)).1, (c :: r).take (tokR (c :: r)).2⟩ :: toksF r.length ((c :: r).drop (tokR (c :: r)).2) := rfl
    rw [e]
    simp only [idP]
    by_cases hm : (tokR (c :: r)).2 = (c :: r).length
    · have hd : (c :: r).drop (tokR (c :: r)).2 = [] := List.drop_eq_nil_of_le (by omega)
      rw [hd, toksF_nil]
      have hb : ((((tokR (c :: r)).2 : Nat) : Int) == ((c :: r).length : Int)) = true := by rw [hm]; exact beq_self_eq_true _
      rw [hb, Bool.true_and]
      simp only
      by_cases h30 : ((c :: r).length : Int) > 30
      · rw [decide_eq_true h30, if_pos rfl, decide_eq_false (show ¬ ((c :: r).length : Int) ≤ 30 by omega), Bool.and_false]
      · rw [decide_eq_false h30, if_neg (by simp), decide_eq_true (show ((c :: r).length : Int) ≤ 30 by omega), Bool.and_true]
    · have hd : toksF r.length ((c :: r).drop (tokR (c :: r)).2) ≠ [] := by
        refine toks_pos (fun h0 => ?_) (by rw [List.length_drop]; simp only [List.length_cons]; omega)
        have := congrArg List.length h0
        rw [List.length_drop] at this
        simp only [List.length_nil] at this
        omega
      have hb : ((((tokR (c :: r)).2 : Nat) : Int) == ((c :: r).length : Int)) = false := by
        rw [beq_eq_false_iff_ne]; omega
      rw [hb, Bool.false_and]
      generalize toksF r.length ((c :: r).drop (tokR (c :: r)).2) = us at hd
      cases us with
      | nil => exact absurd rfl hd
      | cons u us => simp
set_option maxHeartbeats 4000000 in
theorem law3_ok (l : List UInt8) (hl : l.length ≤ 1048576) : PCall Tryd.prog 3 [sb l] (bb true) := by
  have hx := example_ok
  have h1 := tokenize_ok l hl
  have h2 := tokens_ok l hl
  have h3 := isIdent_ok l hl
  have h4 := kw_ok
  have h5 := rkw_ok
  have h6 := eqS_ok KW
  have h7 := eqK_ok (tkz l)
  have hid := id_spec l
  refine PCall.intro (ps := [bb true]) fn3 (by simp) ?_
  unfold ac3
  simp only [argFr]
  cases g1 : decide ((l.length : Int) > 2000) with
  | true =>
    rw [g1, if_pos rfl, if_pos rfl] at h1
    have g2 : idP l = false := by
      have := of_decide_eq_true g1
      cases l with
      | nil => rfl
      | cons c r => simp only [idP]; rw [decide_eq_true (show ((c :: r).length : Int) > 30 by omega), if_pos rfl]
    rw [g2] at h3
    (repeat' (first | ((first | (with_reducible refine aops_call fun C hC => ?_) | (with_reducible refine aopsD_call fun C hC => ?_) | ((with_reducible intro C hC); (with_reducible refine ax_call_mp ?_))); (first | (simp only [go_sem, sb_size, g1, encK_len, List.length_nil, Int.cast_ofNat_Int, beq_self_eq_true]; (first | ((with_reducible apply ACall.pure0 [] (hx)); (focus ((first | exact vwA | exact vwR)))) | ((with_reducible apply ACall.pure0 [] (h1)); (focus ((first | exact vwA | exact vwR)))) | ((with_reducible apply ACall.pure0 [] (h3)); (focus ((first | exact vwA | exact vwR))))))); (simp only [PV.scal, PV.scalL, if_true, Bool.and_true, Bool.and_false, Bool.false_and, Bool.true_and, frz, List.map_nil, Bool.false_eq_true, if_false, ite_self, sb_size, g1, encK_len, List.length_nil, Int.cast_ofNat_Int, beq_self_eq_true]); ((with_reducible first | refine finA hC ?_ | refine finD hC ?_); clear hC C)) | ((with_reducible first | refine aops_cons' fun C hC => ?_ | refine aopsD_cons' fun C hC => ?_ | intro C hC); simp only [go_sem, sb_size, g1, encK_len, List.length_nil, Int.cast_ofNat_Int, beq_self_eq_true]; ((with_reducible first | refine finA hC ?_ | refine finD hC ?_); clear hC C)) | (with_reducible first | refine awp_seq_k fun K hK => ?_ | refine awp_reg_k fun K hK => ?_ | refine awp_dreg_k fun K hK => ?_ | (refine aops_nil ?_; refine hK _ _ ?_; try clear hK K) | (refine aopsD_nil ?_; refine hK _ _ _ ?_ ?_; (focus kernel_rfl); try clear hK K) | (refine thn_normal ?_; refine hK _ _ ?_; try clear hK K) | refine catch_normal ?_ | refine awp_skip_k ?_ | refine awp_ret_k ?_ | refine awp_exit_k ?_ | refine awp_block_k ?_ | (refine thn_exit ?_; try clear hK K) | (refine thn_ret ?_; try clear hK K) | refine catch_ret ?_ | refine catch_exit ?_ | (refine catch_other ?_ ?_; focus decide)) | ((with_reducible first | apply aops_guard' | apply aopsD_guard' | apply awp_cond_g); focus (simp only [go_sem, sb_size, g1, encK_len, List.length_nil, Int.cast_ofNat_Int, beq_self_eq_true]; exact rfl)) | (with_reducible first | refine gk_tt ?_ | refine gk_ff ?_ | refine ck_t ?_ | refine ck_f ?_) | ((with_reducible first | refine gk_tf ?_ | refine gk_ft ?_ | refine gk_u ?_ | refine gk_u' ?_); first | (intro _ e; (first | rw [put_some] at e | rw [put_none] at e); subst e) | (intro _ _ e e'; (first | rw [put_some] at e | rw [put_none] at e); subst e; subst e'))))
    (refine retP_ret (List.range 40) rfl ?_; (first | exact vwA | exact vwR))
  | false =>
    rw [g1, if_neg (by simp), if_neg (by simp)] at h1
    generalize tkz l = T at *
    match T, hid with
    | [], hid =>
      rw [hid] at h3
      (repeat' (first | ((first | (with_reducible refine aops_call fun C hC => ?_) | (with_reducible refine aopsD_call fun C hC => ?_) | ((with_reducible intro C hC); (with_reducible refine ax_call_mp ?_))); (first | (simp only [go_sem, sb_size, g1, encK_len, List.length_nil, Int.cast_ofNat_Int, beq_self_eq_true]; (first | ((with_reducible apply ACall.pure0 [] (hx)); (focus ((first | exact vwA | exact vwR)))) | ((with_reducible apply ACall.pure0 [] (h1)); (focus ((first | exact vwA | exact vwR)))) | ((with_reducible apply ACall.pure0 [] (h2)); (focus ((first | exact vwA | exact vwR)))) | ((with_reducible apply ACall.pure0 [] (h3)); (focus ((first | exact vwA | exact vwR)))) | ((with_reducible apply ACall.pure0 [] (h4)); (focus ((first | exact vwA | exact vwR)))) | ((with_reducible apply ACall.pure0 [] (h5)); (focus ((first | exact vwA | exact vwR)))) | ((with_reducible apply ACall.pure0 [] (h6)); (focus ((first | exact vwA | exact vwR)))) | ((with_reducible apply ACall.pure0 [] (h7)); (focus ((first | exact vwA | exact vwR))))))); (simp only [PV.scal, PV.scalL, if_true, Bool.and_true, Bool.and_false, Bool.false_and, Bool.true_and, frz, List.map_nil, Bool.false_eq_true, if_false, ite_self, sb_size, g1, encK_len, List.length_nil, Int.cast_ofNat_Int, beq_self_eq_true]); ((with_reducible first | refine finA hC ?_ | refine finD hC ?_); clear hC C)) | ((with_reducible first | refine aops_cons' fun C hC => ?_ | refine aopsD_cons' fun C hC => ?_ | intro C hC); simp only [go_sem, sb_size, g1, encK_len, List.length_nil, Int.cast_ofNat_Int, beq_self_eq_true]; ((with_reducible first | refine finA hC ?_ | refine finD hC ?_); clear hC C)) | (with_reducible first | refine awp_seq_k fun K hK => ?_ | refine awp_reg_k fun K hK => ?_ | refine awp_dreg_k fun K hK => ?_ | (refine aops_nil ?_; refine hK _ _ ?_; try clear hK K) | (refine aopsD_nil ?_; refine hK _ _ _ ?_ ?_; (focus kernel_rfl); try clear hK K) | (refine thn_normal ?_; refine hK _ _ ?_; try clear hK K) | refine catch_normal ?_ | refine awp_skip_k ?_ | refine awp_ret_k ?_ | refine awp_exit_k ?_ | refine awp_block_k ?_ | (refine thn_exit ?_; try clear hK K) | (refine thn_ret ?_; try clear hK K) | refine catch_ret ?_ | refine catch_exit ?_ | (refine catch_other ?_ ?_; focus decide)) | ((with_reducible first | apply aops_guard' | apply aopsD_guard' | apply awp_cond_g); focus (simp only [go_sem, sb_size, g1, encK_len, List.length_nil, Int.cast_ofNat_Int, beq_self_eq_true]; exact rfl)) | (with_reducible first | refine gk_tt ?_ | refine gk_ff ?_ | refine ck_t ?_ | refine ck_f ?_) | ((with_reducible first | refine gk_tf ?_ | refine gk_ft ?_ | refine gk_u ?_ | refine gk_u' ?_); first | (intro _ e; (first | rw [put_some] at e | rw [put_none] at e); subst e) | (intro _ _ e e'; (first | rw [put_some] at e | rw [put_none] at e); subst e; subst e'))))
      (refine retP_ret (List.range 40) rfl ?_; (first | exact vwA | exact vwR))
    | [t], hid =>
      have hat : (encK [t])[0]? = some t.enc := rfl
      simp only at hid
      cases k1 : (t.k == 103) with
      | false =>
        rw [k1, Bool.false_and] at hid
        rw [hid] at h3
        (repeat' (first | ((first | (with_reducible refine aops_call fun C hC => ?_) | (with_reducible refine aopsD_call fun C hC => ?_) | ((with_reducible intro C hC); (with_reducible refine ax_call_mp ?_))); (first | (simp only [go_sem, sb_size, g1, encK_len, List.length_nil, List.length_cons, Int.cast_ofNat_Int, beq_self_eq_true, hat, pcells_tk, k1]; (first | ((with_reducible apply ACall.pure0 [] (hx)); (focus ((first | exact vwA | exact vwR)))) | ((with_reducible apply ACall.pure0 [] (h1)); (focus ((first | exact vwA | exact vwR)))) | ((with_reducible apply ACall.pure0 [] (h2)); (focus ((first | exact vwA | exact vwR)))) | ((with_reducible apply ACall.pure0 [] (h3)); (focus ((first | exact vwA | exact vwR)))) | ((with_reducible apply ACall.pure0 [] (h4)); (focus ((first | exact vwA | exact vwR)))) | ((with_reducible apply ACall.pure0 [] (h5)); (focus ((first | exact vwA | exact vwR)))) | ((with_reducible apply ACall.pure0 [] (h6)); (focus ((first | exact vwA | exact vwR)))) | ((with_reducible apply ACall.pure0 [] (h7)); (focus ((first | exact vwA | exact vwR))))))); (simp only [PV.scal, PV.scalL, if_true, Bool.and_true, Bool.and_false, Bool.false_and, Bool.true_and, frz, List.map_nil, Bool.false_eq_true, if_false, ite_self, sb_size, g1, encK_len, List.length_nil, List.length_cons, Int.cast_ofNat_Int, beq_self_eq_true, hat, pcells_tk, k1]); ((with_reducible first | refine finA hC ?_ | refine finD hC ?_); clear hC C)) | ((with_reducible first | refine aops_cons' fun C hC => ?_ | refine aopsD_cons' fun C hC => ?_ | intro C hC); simp only [go_sem, sb_size, g1, encK_len, List.length_nil, List.length_cons, Int.cast_ofNat_Int, beq_self_eq_true, hat, pcells_tk, k1]; ((with_reducible first | refine finA hC ?_ | refine finD hC ?_); clear hC C)) | (with_reducible first | refine awp_seq_k fun K hK => ?_ | refine awp_reg_k fun K hK => ?_ | refine awp_dreg_k fun K hK => ?_ | (refine aops_nil ?_; refine hK _ _ ?_; try clear hK K) | (refine aopsD_nil ?_; refine hK _ _ _ ?_ ?_; (focus kernel_rfl); try clear hK K) | (refine thn_normal ?_; refine hK _ _ ?_; try clear hK K) | refine catch_normal ?_ | refine awp_skip_k ?_ | refine awp_ret_k ?_ | refine awp_exit_k ?_ | refine awp_block_k ?_ | (refine thn_exit ?_; try clear hK K) | (refine thn_ret ?_; try clear hK K) | refine catch_ret ?_ | refine catch_exit ?_ | (refine catch_other ?_ ?_; focus decide)) | ((with_reducible first | apply aops_guard' | apply aopsD_guard' | apply awp_cond_g); focus (simp only [go_sem, sb_size, g1, encK_len, List.length_nil, List.length_cons, Int.cast_ofNat_Int, beq_self_eq_true, hat, pcells_tk, k1]; exact rfl)) | (with_reducible first | refine gk_tt ?_ | refine gk_ff ?_ | refine ck_t ?_ | refine ck_f ?_) | ((with_reducible first | refine gk_tf ?_ | refine gk_ft ?_ | refine gk_u ?_ | refine gk_u' ?_); first | (intro _ e; (first | rw [put_some] at e | rw [put_none] at e); subst e) | (intro _ _ e e'; (first | rw [put_some] at e | rw [put_none] at e); subst e; subst e'))))
        (refine retP_ret (List.range 40) rfl ?_; (first | exact vwA | exact vwR))
      | true =>
        rw [k1, Bool.true_and] at hid
        rw [hid] at h3
        (repeat' (first | ((first | (with_reducible refine aops_call fun C hC => ?_) | (with_reducible refine aopsD_call fun C hC => ?_) | ((with_reducible intro C hC); (with_reducible refine ax_call_mp ?_))); (first | (simp only [go_sem, sb_size, g1, encK_len, List.length_nil, List.length_cons, Int.cast_ofNat_Int, beq_self_eq_true, hat, pcells_tk, k1]; (first | ((with_reducible apply ACall.pure0 [] (hx)); (focus ((first | exact vwA | exact vwR)))) | ((with_reducible apply ACall.pure0 [] (h1)); (focus ((first | exact vwA | exact vwR)))) | ((with_reducible apply ACall.pure0 [] (h2)); (focus ((first | exact vwA | exact vwR)))) | ((with_reducible apply ACall.pure0 [] (h3)); (focus ((first | exact vwA | exact vwR)))) | ((with_reducible apply ACall.pure0 [] (h4)); (focus ((first | exact vwA | exact vwR)))) | ((with_reducible apply ACall.pure0 [] (h5)); (focus ((first | exact vwA | exact vwR)))) | ((with_reducible apply ACall.pure0 [] (h6)); (focus ((first | exact vwA | exact vwR)))) | ((with_reducible apply ACall.pure0 [] (h7)); (focus ((first | exact vwA | exact vwR))))))); (simp only [PV.scal, PV.scalL, if_true, Bool.and_true, Bool.and_false, Bool.false_and, Bool.true_and, frz, List.map_nil, Bool.false_eq_true, if_false, ite_self, sb_size, g1, encK_len, List.length_nil, List.length_cons, Int.cast_ofNat_Int, beq_self_eq_true, hat, pcells_tk, k1]); ((with_reducible first | refine finA hC ?_ | refine finD hC ?_); clear hC C)) | ((with_reducible first | refine aops_cons' fun C hC => ?_ | refine aopsD_cons' fun C hC => ?_ | intro C hC); simp only [go_sem, sb_size, g1, encK_len, List.length_nil, List.length_cons, Int.cast_ofNat_Int, beq_self_eq_true, hat, pcells_tk, k1]; ((with_reducible first | refine finA hC ?_ | refine finD hC ?_); clear hC C)) | (with_reducible first | refine awp_seq_k fun K hK => ?_ | refine awp_reg_k fun K hK => ?_ | refine awp_dreg_k fun K hK => ?_ | (refine aops_nil ?_; refine hK _ _ ?_; try clear hK K) | (refine aopsD_nil ?_; refine hK _ _ _ ?_ ?_; (focus kernel_rfl); try clear hK K) | (refine thn_normal ?_; refine hK _ _ ?_; try clear hK K) | refine catch_normal ?_ | refine awp_skip_k ?_ | refine awp_ret_k ?_ | refine awp_exit_k ?_ | refine awp_block_k ?_ | (refine thn_exit ?_; try clear hK K) | (refine thn_ret ?_; try clear hK K) | refine catch_ret ?_ | refine catch_exit ?_ | (refine catch_other ?_ ?_; focus decide)) | ((with_reducible first | apply aops_guard' | apply aopsD_guard' | apply awp_cond_g); focus (simp only [go_sem, sb_size, g1, encK_len, List.length_nil, List.length_cons, Int.cast_ofNat_Int, beq_self_eq_true, hat, pcells_tk, k1]; exact rfl)) | (with_reducible first | refine gk_tt ?_ | refine gk_ff ?_ | refine ck_t ?_ | refine ck_f ?_) | ((with_reducible first | refine gk_tf ?_ | refine gk_ft ?_ | refine gk_u ?_ | refine gk_u' ?_); first | (intro _ e; (first | rw [put_some] at e | rw [put_none] at e); subst e) | (intro _ _ e e'; (first | rw [put_some] at e | rw [put_none] at e); subst e; subst e'))))
        (refine retP_ret (List.range 40) rfl ?_; (first | exact vwA | exact vwR))
    | t :: u :: us, hid =>
      have g3 : (((t :: u :: us).length : Int) == 1) = false := by simp only [List.length_cons, beq_eq_false_iff_ne, ne_eq]; omega
      rw [show idP l = false from hid] at h3
      clear hid
      generalize t :: u :: us = T at *
      (repeat' (first | ((first | (with_reducible refine aops_call fun C hC => ?_) | (with_reducible refine aopsD_call fun C hC => ?_) | ((with_reducible intro C hC); (with_reducible refine ax_call_mp ?_))); (first | (simp only [go_sem, sb_size, g1, encK_len, beq_self_eq_true, g3]; (first | ((with_reducible apply ACall.pure0 [] (hx)); (focus ((first | exact vwA | exact vwR)))) | ((with_reducible apply ACall.pure0 [] (h1)); (focus ((first | exact vwA | exact vwR)))) | ((with_reducible apply ACall.pure0 [] (h2)); (focus ((first | exact vwA | exact vwR)))) | ((with_reducible apply ACall.pure0 [] (h3)); (focus ((first | exact vwA | exact vwR)))) | ((with_reducible apply ACall.pure0 [] (h4)); (focus ((first | exact vwA | exact vwR)))) | ((with_reducible apply ACall.pure0 [] (h5)); (focus ((first | exact vwA | exact vwR)))) | ((with_reducible apply ACall.pure0 [] (h6)); (focus ((first | exact vwA | exact vwR)))) | ((with_reducible apply ACall.pure0 [] (h7)); (focus ((first | exact vwA | exact vwR))))))); (simp only [PV.scal, PV.scalL, if_true, Bool.and_true, Bool.and_false, Bool.false_and, Bool.true_and, frz, List.map_nil, Bool.false_eq_true, if_false, ite_self, sb_size, g1, encK_len, beq_self_eq_true, g3]); ((with_reducible first | refine finA hC ?_ | refine finD hC ?_); clear hC C)) | ((with_reducible first | refine aops_cons' fun C hC => ?_ | refine aopsD_cons' fun C hC => ?_ | intro C hC); simp only [go_sem, sb_size, g1, encK_len, beq_self_eq_true, g3]; ((with_reducible first | refine finA hC ?_ | refine finD hC ?_); clear hC C)) | (with_reducible first | refine awp_seq_k fun K hK => ?_ | refine awp_reg_k fun K hK => ?_ | refine awp_dreg_k fun K hK => ?_ | (refine aops_nil ?_; refine hK _ _ ?_; try clear hK K) | (refine aopsD_nil ?_; refine hK _ _ _ ?_ ?_; (focus kernel_rfl); try clear hK K) | (refine thn_normal ?_; refine hK _ _ ?_; try clear hK K) | refine catch_normal ?_ | refine awp_skip_k ?_ | refine awp_ret_k ?_ | refine awp_exit_k ?_ | refine awp_block_k ?_ | (refine thn_exit ?_; try clear hK K) | (refine thn_ret ?_; try clear hK K) | refine catch_ret ?_ | refine catch_exit ?_ | (refine catch_other ?_ ?_; focus decide)) | ((with_reducible first | apply aops_guard' | apply aopsD_guard' | apply awp_cond_g); focus (simp only [go_sem, sb_size, g1, encK_len, beq_self_eq_true, g3]; exact rfl)) | (with_reducible first | refine gk_tt ?_ | refine gk_ff ?_ | refine ck_t ?_ | refine ck_f ?_) | ((with_reducible first | refine gk_tf ?_ | refine gk_ft ?_ | refine gk_u ?_ | refine gk_u' ?_); first | (intro _ e; (first | rw [put_some] at e | rw [put_none] at e); subst e) | (intro _ _ e e'; (first | rw [put_some] at e | rw [put_none] at e); subst e; subst e'))))
      (refine retP_ret (List.range 40) rfl ?_; (first | exact vwA | exact vwR))
end Go.Proofs.YtljpmkaecfollaaDoor
