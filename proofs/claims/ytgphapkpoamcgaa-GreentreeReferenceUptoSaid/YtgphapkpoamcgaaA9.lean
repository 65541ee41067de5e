/- A9: joined from G7. -/
import Derived.Test.YtgphapkpoamcgaaFnG
import Derived.Test.YtgphapkpoamcgaaA8
/- Arenas: Tree; the reference's ArenaTree, ArenaTreeSize. -/
set_option maxRecDepth 10000
set_option linter.unusedSimpArgs false
set_option linter.unusedVariables false
namespace Go.Proofs.Ytgphapkpoamcgaa
open Go Go.Ab
theorem arV_dn {ns : List GN} (h : (arV ns == 0) = true) : arOk ns = true ∧ ns.length ≤ 4000 := by
  unfold arV at h
  cases h1 : decide ((ns.length : Int) > 4000) with
  | true => rw [h1] at h; simp at h
  | false =>
    have := of_decide_eq_false h1
    rw [h1] at h
    cases h2 : arOk ns with
    | true => exact ⟨rfl, by omega⟩
    | false => rw [h2] at h; simp at h
def treeR (ns : List GN) (i : Int) : ST × Int :=
  if arV ns == 0 then (if decide (i < 0) then (zS, 5) else if decide (i ≥ ns.length) then (zS, 5) else if decide ((bld ns ns.length i 4000).2 < 0) then (zS, 2) else ((bld ns ns.length i 4000).1, 0)) else (zS, arV ns)
set_option maxHeartbeats 1000000 in
theorem tree_ok (ns : List GN) (i : Int) : PCall Try.prog 53 [AR ns, ii i] (.tup [(treeR ns i).1.enc, ii (treeR ns i).2]) := by
  have hv := validate_ok ns
  unfold AR at hv
  unfold AR
  generalize hR : treeR ns i = R
  unfold treeR at hR
  refine PCall.intro (ps := [R.1.enc, ii R.2]) fn53 (by simp) ?_
  unfold ac53
  simp only [argFr]
  cases h1 : (arV ns == 0) with
  | false =>
    rw [h1, if_neg (by simp)] at hR
    subst hR
    (repeat' (first | ((first | (with_reducible refine aops_call fun C hC => ?_) | (with_reducible refine aopsD_call fun C hC => ?_) | ((with_reducible intro C hC); (with_reducible refine ax_call_mp ?_))); (first | (simp only [go_sem, vc_agg, bne, h1]; (first | ((with_reducible apply ACall.pure0 [] (hv)); (focus (exact vwA)))))); (simp only [PV.scal, PV.scalL, if_true, Bool.and_true, Bool.and_false, Bool.false_and, Bool.true_and, frz, List.map_nil, Bool.false_eq_true, if_false, ite_self, vc_agg, bne, h1]); ((with_reducible first | refine finA hC ?_ | refine finD hC ?_); clear hC C)) | ((with_reducible first | refine aops_cons' fun C hC => ?_ | refine aopsD_cons' fun C hC => ?_ | intro C hC); simp only [go_sem, vc_agg, bne, h1]; ((with_reducible first | refine finA hC ?_ | refine finD hC ?_); clear hC C)) | (with_reducible first | refine awp_seq_k fun K hK => ?_ | refine awp_reg_k fun K hK => ?_ | refine awp_dreg_k fun K hK => ?_ | (refine aops_nil ?_; refine hK _ _ ?_; try clear hK K) | (refine aopsD_nil ?_; refine hK _ _ _ ?_ ?_; (focus kernel_rfl); try clear hK K) | (refine thn_normal ?_; refine hK _ _ ?_; try clear hK K) | refine catch_normal ?_ | refine awp_skip_k ?_ | refine awp_ret_k ?_ | refine awp_exit_k ?_ | refine awp_block_k ?_ | (refine thn_exit ?_; try clear hK K) | (refine thn_ret ?_; try clear hK K) | refine catch_ret ?_ | refine catch_exit ?_ | (refine catch_other ?_ ?_; focus decide)) | ((with_reducible first | apply aops_guard' | apply aopsD_guard' | apply awp_cond_g); focus (simp only [go_sem, vc_agg, bne, h1]; exact rfl)) | (with_reducible first | refine gk_tt ?_ | refine gk_ff ?_ | refine ck_t ?_ | refine ck_f ?_) | ((with_reducible first | refine gk_tf ?_ | refine gk_ft ?_ | refine gk_u ?_ | refine gk_u' ?_); first | (intro _ e; (first | rw [put_some] at e | rw [put_none] at e); subst e) | (intro _ _ e e'; (first | rw [put_some] at e | rw [put_none] at e); subst e; subst e'))))
    (refine retP_ret (List.range 40) rfl ?_; (try simp only [zS, ST.enc, encST, if_true, if_false, Bool.false_eq_true, Bool.not_true, Bool.not_false]); exact vwA)
  | true =>
    have hv0 : arV ns = 0 := by simpa using h1
    obtain ⟨hok, hlen⟩ := arV_dn h1
    have hdn := arOk_dn hok
    rw [h1, if_pos rfl] at hR
    rw [hv0] at hv
    cases h2 : decide (i < 0) with
    | true =>
      rw [h2, if_pos rfl] at hR
      subst hR
      (repeat' (first | ((first | (with_reducible refine aops_call fun C hC => ?_) | (with_reducible refine aopsD_call fun C hC => ?_) | ((with_reducible intro C hC); (with_reducible refine ax_call_mp ?_))); (first | (simp only [go_sem, vc_agg, bne, beq_self_eq_true, h2]; (first | ((with_reducible apply ACall.pure0 [] (hv)); (focus (exact vwA)))))); (simp only [PV.scal, PV.scalL, if_true, Bool.and_true, Bool.and_false, Bool.false_and, Bool.true_and, frz, List.map_nil, Bool.false_eq_true, if_false, ite_self, vc_agg, bne, beq_self_eq_true, h2]); ((with_reducible first | refine finA hC ?_ | refine finD hC ?_); clear hC C)) | ((with_reducible first | refine aops_cons' fun C hC => ?_ | refine aopsD_cons' fun C hC => ?_ | intro C hC); simp only [go_sem, vc_agg, bne, beq_self_eq_true, h2]; ((with_reducible first | refine finA hC ?_ | refine finD hC ?_); clear hC C)) | (with_reducible first | refine awp_seq_k fun K hK => ?_ | refine awp_reg_k fun K hK => ?_ | refine awp_dreg_k fun K hK => ?_ | (refine aops_nil ?_; refine hK _ _ ?_; try clear hK K) | (refine aopsD_nil ?_; refine hK _ _ _ ?_ ?_; (focus kernel_rfl); try clear hK K) | (refine thn_normal ?_; refine hK _ _ ?_; try clear hK K) | refine catch_normal ?_ | refine awp_skip_k ?_ | refine awp_ret_k ?_ | refine awp_exit_k ?_ | refine awp_block_k ?_ | (refine thn_exit ?_; try clear hK K) | (refine thn_ret ?_; try clear hK K) | refine catch_ret ?_ | refine catch_exit ?_ | (refine catch_other ?_ ?_; focus decide)) | ((with_reducible first | apply aops_guard' | apply aopsD_guard' | apply awp_cond_g); focus (simp only [go_sem, vc_agg, bne, beq_self_eq_true, h2]; exact rfl)) | (with_reducible first | refine gk_tt ?_ | refine gk_ff ?_ | refine ck_t ?_ | refine ck_f ?_) | ((with_reducible first | refine gk_tf ?_ | refine gk_ft ?_ | refine gk_u ?_ | refine gk_u' ?_); first | (intro _ e; (first | rw [put_some] at e | rw [put_none] at e); subst e) | (intro _ _ e e'; (first | rw [put_some] at e | rw [put_none] at e); subst e; subst e'))))
      (refine retP_ret (List.range 40) rfl ?_; (try simp only [zS, ST.enc, encST, if_true, if_false, Bool.false_eq_true, Bool.not_true, Bool.not_false]); exact vwA)
    | false =>
      rw [h2, if_neg (by simp)] at hR
      cases h3 : decide (i ≥ (ns.length : Int)) with
      | true =>
        rw [h3, if_pos rfl] at hR
        subst hR
        (repeat' (first | ((first | (with_reducible refine aops_call fun C hC => ?_) | (with_reducible refine aopsD_call fun C hC => ?_) | ((with_reducible intro C hC); (with_reducible refine ax_call_mp ?_))); (first | (simp only [go_sem, vc_agg, bne, beq_self_eq_true, h2, h3, encG_len]; (first | ((with_reducible apply ACall.pure0 [] (hv)); (focus (exact vwA)))))); (simp only [PV.scal, PV.scalL, if_true, Bool.and_true, Bool.and_false, Bool.false_and, Bool.true_and, frz, List.map_nil, Bool.false_eq_true, if_false, ite_self, vc_agg, bne, beq_self_eq_true, h2, h3, encG_len]); ((with_reducible first | refine finA hC ?_ | refine finD hC ?_); clear hC C)) | ((with_reducible first | refine aops_cons' fun C hC => ?_ | refine aopsD_cons' fun C hC => ?_ | intro C hC); simp only [go_sem, vc_agg, bne, beq_self_eq_true, h2, h3, encG_len]; ((with_reducible first | refine finA hC ?_ | refine finD hC ?_); clear hC C)) | (with_reducible first | refine awp_seq_k fun K hK => ?_ | refine awp_reg_k fun K hK => ?_ | refine awp_dreg_k fun K hK => ?_ | (refine aops_nil ?_; refine hK _ _ ?_; try clear hK K) | (refine aopsD_nil ?_; refine hK _ _ _ ?_ ?_; (focus kernel_rfl); try clear hK K) | (refine thn_normal ?_; refine hK _ _ ?_; try clear hK K) | refine catch_normal ?_ | refine awp_skip_k ?_ | refine awp_ret_k ?_ | refine awp_exit_k ?_ | refine awp_block_k ?_ | (refine thn_exit ?_; try clear hK K) | (refine thn_ret ?_; try clear hK K) | refine catch_ret ?_ | refine catch_exit ?_ | (refine catch_other ?_ ?_; focus decide)) | ((with_reducible first | apply aops_guard' | apply aopsD_guard' | apply awp_cond_g); focus (simp only [go_sem, vc_agg, bne, beq_self_eq_true, h2, h3, encG_len]; exact rfl)) | (with_reducible first | refine gk_tt ?_ | refine gk_ff ?_ | refine ck_t ?_ | refine ck_f ?_) | ((with_reducible first | refine gk_tf ?_ | refine gk_ft ?_ | refine gk_u ?_ | refine gk_u' ?_); first | (intro _ e; (first | rw [put_some] at e | rw [put_none] at e); subst e) | (intro _ _ e e'; (first | rw [put_some] at e | rw [put_none] at e); subst e; subst e'))))
        (refine retP_ret (List.range 40) rfl ?_; (try simp only [zS, ST.enc, encST, if_true, if_false, Bool.false_eq_true, Bool.not_true, Bool.not_false]); exact vwA)
      | false =>
        rw [h3, if_neg (by simp)] at hR
        have hi0 := of_decide_eq_false h2
        have hi1 := of_decide_eq_false h3
        have hc := buildF_ok ns hdn ns.length i 4000 (by omega) (by omega) (by omega)
        unfold AR at hc
        generalize bld ns ns.length i 4000 = q at hc hR
        (repeat' (first | ((first | (with_reducible refine aops_call fun C hC => ?_) | (with_reducible refine aopsD_call fun C hC => ?_) | ((with_reducible intro C hC); (with_reducible refine ax_call_mp ?_))); (first | (simp only [go_sem, vc_agg, bne, beq_self_eq_true, h2, h3, encG_len]; (first | ((with_reducible apply ACall.pure0 [] (hv)); (focus (exact vwA)))))); (simp only [PV.scal, PV.scalL, if_true, Bool.and_true, Bool.and_false, Bool.false_and, Bool.true_and, frz, List.map_nil, Bool.false_eq_true, if_false, ite_self, vc_agg, bne, beq_self_eq_true, h2, h3, encG_len]); ((with_reducible first | refine finA hC ?_ | refine finD hC ?_); clear hC C)) | ((with_reducible first | refine aops_cons' fun C hC => ?_ | refine aopsD_cons' fun C hC => ?_ | intro C hC); simp only [go_sem, vc_agg, bne, beq_self_eq_true, h2, h3, encG_len]; ((with_reducible first | refine finA hC ?_ | refine finD hC ?_); clear hC C)) | (with_reducible first | refine awp_seq_k fun K hK => ?_ | refine awp_reg_k fun K hK => ?_ | refine awp_dreg_k fun K hK => ?_ | (refine aops_nil ?_; refine hK _ _ ?_; try clear hK K) | (refine aopsD_nil ?_; refine hK _ _ _ ?_ ?_; (focus kernel_rfl); try clear hK K) | (refine thn_normal ?_; refine hK _ _ ?_; try clear hK K) | refine catch_normal ?_ | refine awp_skip_k ?_ | refine awp_ret_k ?_ | refine awp_exit_k ?_ | refine awp_block_k ?_ | (refine thn_exit ?_; try clear hK K) | (refine thn_ret ?_; try clear hK K) | refine catch_ret ?_ | refine catch_exit ?_ | (refine catch_other ?_ ?_; focus decide)) | ((with_reducible first | apply aops_guard' | apply aopsD_guard' | apply awp_cond_g); focus (simp only [go_sem, vc_agg, bne, beq_self_eq_true, h2, h3, encG_len]; exact rfl)) | (with_reducible first | refine gk_tt ?_ | refine gk_ff ?_ | refine ck_t ?_ | refine ck_f ?_) | ((with_reducible first | refine gk_tf ?_ | refine gk_ft ?_ | refine gk_u ?_ | refine gk_u' ?_); first | (intro _ e; (first | rw [put_some] at e | rw [put_none] at e); subst e) | (intro _ _ e e'; (first | rw [put_some] at e | rw [put_none] at e); subst e; subst e'))))
        refine aops_call fun C hC => ?_
        simp only [go_sem]
        refine ACall.heap [2] hc rfl (by decide) (by decide) (VM.pv (.agg [.pv (.list 4 (encG ns))]) _ _ _ (.agg _ _ (.cons _ _ _ _ (.pv _) .nil)) (VM.eq (.pv (ii i)) _ _ (VM.eq (.ptr 0 0 0) _ _ .nil))) (hh1 rfl) ?_
        simp only [V.ren, V.renL, outD, outB, rho0, hget_zero, hget_succ, Option.map_some, Option.bind_some, iB, ST.tc, List.map_cons, List.map_nil]
        (with_reducible refine finA hC ?_); clear hC C
        cases h4 : decide (q.2 < 0) with
        | true =>
          rw [h4, if_pos rfl] at hR
          subst hR
          (repeat' (first | ((with_reducible first | refine aops_cons' fun C hC => ?_ | refine aopsD_cons' fun C hC => ?_ | intro C hC); simp only [go_sem, h4]; ((with_reducible first | refine finA hC ?_ | refine finD hC ?_); clear hC C)) | (with_reducible first | refine awp_seq_k fun K hK => ?_ | refine awp_reg_k fun K hK => ?_ | refine awp_dreg_k fun K hK => ?_ | (refine aops_nil ?_; refine hK _ _ ?_; try clear hK K) | (refine aopsD_nil ?_; refine hK _ _ _ ?_ ?_; (focus kernel_rfl); try clear hK K) | (refine thn_normal ?_; refine hK _ _ ?_; try clear hK K) | refine catch_normal ?_ | refine awp_skip_k ?_ | refine awp_ret_k ?_ | refine awp_exit_k ?_ | refine awp_block_k ?_ | (refine thn_exit ?_; try clear hK K) | (refine thn_ret ?_; try clear hK K) | refine catch_ret ?_ | refine catch_exit ?_ | (refine catch_other ?_ ?_; focus decide)) | ((with_reducible first | apply aops_guard' | apply aopsD_guard' | apply awp_cond_g); focus (simp only [go_sem, h4]; exact rfl)) | (with_reducible first | refine gk_tt ?_ | refine gk_ff ?_ | refine ck_t ?_ | refine ck_f ?_) | ((with_reducible first | refine gk_tf ?_ | refine gk_ft ?_ | refine gk_u ?_ | refine gk_u' ?_); first | (intro _ e; (first | rw [put_some] at e | rw [put_none] at e); subst e) | (intro _ _ e e'; (first | rw [put_some] at e | rw [put_none] at e); subst e; subst e'))))
          (refine retP_ret (List.range 40) rfl ?_; (try simp only [zS, ST.enc, encST, if_true, if_false, Bool.false_eq_true, Bool.not_true, Bool.not_false]); exact vwA)
        | false =>
          rw [h4, if_neg (by simp)] at hR
          subst hR
          (repeat' (first | ((with_reducible first | refine aops_cons' fun C hC => ?_ | refine aopsD_cons' fun C hC => ?_ | intro C hC); simp only [go_sem, h4]; ((with_reducible first | refine finA hC ?_ | refine finD hC ?_); clear hC C)) | (with_reducible first | refine awp_seq_k fun K hK => ?_ | refine awp_reg_k fun K hK => ?_ | refine awp_dreg_k fun K hK => ?_ | (refine aops_nil ?_; refine hK _ _ ?_; try clear hK K) | (refine aopsD_nil ?_; refine hK _ _ _ ?_ ?_; (focus kernel_rfl); try clear hK K) | (refine thn_normal ?_; refine hK _ _ ?_; try clear hK K) | refine catch_normal ?_ | refine awp_skip_k ?_ | refine awp_ret_k ?_ | refine awp_exit_k ?_ | refine awp_block_k ?_ | (refine thn_exit ?_; try clear hK K) | (refine thn_ret ?_; try clear hK K) | refine catch_ret ?_ | refine catch_exit ?_ | (refine catch_other ?_ ?_; focus decide)) | ((with_reducible first | apply aops_guard' | apply aopsD_guard' | apply awp_cond_g); focus (simp only [go_sem, h4]; exact rfl)) | (with_reducible first | refine gk_tt ?_ | refine gk_ff ?_ | refine ck_t ?_ | refine ck_f ?_) | ((with_reducible first | refine gk_tf ?_ | refine gk_ft ?_ | refine gk_u ?_ | refine gk_u' ?_); first | (intro _ e; (first | rw [put_some] at e | rw [put_none] at e); subst e) | (intro _ _ e e'; (first | rw [put_some] at e | rw [put_none] at e); subst e; subst e'))))
          (refine retP_ret (List.range 40) rfl ?_; (try simp only [enc_st, if_true, if_false, Bool.false_eq_true, Bool.not_true, Bool.not_false]); exact vwA)
set_option maxHeartbeats 4000000 in
theorem at_step (ns : List GN) (hdn : Dn ns) (f : Nat) (i : Int) (hi : 0 ≤ i ∧ i < (f + 1 : Nat) ∧ i < ns.length)
    (hrec : ∀ (c : Int), (0 ≤ c ∧ c < f ∧ c < ns.length) → PCall Try.prog 59 [AR ns, ii c] (atT ns f c).enc) :
    PCall Try.prog 59 [AR ns, ii i] (atT ns (f + 1) i).enc := by
  generalize hR : atT ns (f + 1) i = R
  refine PCall.intro' (ps := [R.enc]) fn59 (by simp) fun hok => ?_
  have hokl : PV.okL (encG ns) := by simp only [AR, PV.okL, PV.ok] at hok; exact hok.1.1.2
  clear hok
  obtain ⟨j, rfl⟩ : ∃ j : Nat, i = (j : Int) := ⟨i.toNat, by omega⟩
  have hn := List.getElem?_eq_getElem (show j < ns.length by omega)
  generalize ns[j] = n at hn
  have hlen := ok_gn hokl hn
  have hnt := encG_get hn
  have hch : ∀ c ∈ n.ch, 0 ≤ c ∧ c < (f : Int) ∧ c < ns.length := fun c hc => by have := hdn j n hn c hc; omega
  simp only [atT, Int.toNat_natCast, hn] at hR
  unfold AR
  unfold ac59
  simp only [argFr]
  (repeat' (first | ((with_reducible first | refine aops_cons' fun C hC => ?_ | refine aopsD_cons' fun C hC => ?_ | intro C hC); simp only [go_sem, hnt, pcells_gn, encI_len, vc_agg]; ((with_reducible first | refine finA hC ?_ | refine finD hC ?_); clear hC C)) | (with_reducible first | refine awp_seq_k fun K hK => ?_ | refine awp_reg_k fun K hK => ?_ | refine awp_dreg_k fun K hK => ?_ | (refine aops_nil ?_; refine hK _ _ ?_; try clear hK K) | (refine aopsD_nil ?_; refine hK _ _ _ ?_ ?_; (focus kernel_rfl); try clear hK K) | (refine thn_normal ?_; refine hK _ _ ?_; try clear hK K) | refine catch_normal ?_ | refine awp_skip_k ?_ | refine awp_ret_k ?_ | refine awp_exit_k ?_ | refine awp_block_k ?_ | (refine thn_exit ?_; try clear hK K) | (refine thn_ret ?_; try clear hK K) | refine catch_ret ?_ | refine catch_exit ?_ | (refine catch_other ?_ ?_; focus decide)) | ((with_reducible first | apply aops_guard' | apply aopsD_guard' | apply awp_cond_g); focus (simp only [go_sem, hnt, pcells_gn, encI_len, vc_agg]; exact rfl)) | (with_reducible first | refine gk_tt ?_ | refine gk_ff ?_ | refine ck_t ?_ | refine ck_f ?_) | ((with_reducible first | refine gk_tf ?_ | refine gk_ft ?_ | refine gk_u ?_ | refine gk_u' ?_); first | (intro _ e; (first | rw [put_some] at e | rw [put_none] at e); subst e) | (intro _ _ e e'; (first | rw [put_some] at e | rw [put_none] at e); subst e; subst e'))))
  have rows : ∀ (rest pre : List Int) (acc : List ST), pre ++ rest = n.ch → n.ch.map (atT ns f) = acc ++ rest.map (atT ns f) → acc.length + rest.length ≤ 1099511627776 → loopN (awp Try.prog ac59_l0) (catch_ 0 (thn K (retP [RV.cell 4 3 true] [R.enc]))) (rest.length + 1)
     [(22, .pv (ii pre.length)), (21, .pv (ii n.ch.length)), (20, .pv (.list 1 (encI n.ch))), (6, .ptr 3 0 0), (5, .ptr 2 0 0), (4, .ptr 1 0 0), (2, .ptr 0 0 0)] [some ⟨false, 75, 1, [[.pv (.list 4 (encG ns))]], none⟩, some ⟨false, 78, 3, [[.pv (ii 0), .pv (ss ⟨#[]⟩), .pv (.lit (.slice none 0 0))]], none⟩, some ⟨false, 122, 4, [[.pv (ii n.kd), .pv (ii n.w), .pv (ss n.tx), .pv (.list 1 (encI n.ch))]], none⟩, some ⟨false, 78, 3, [[.pv (ii n.kd), .pv (ss n.tx), .row 4 acc.length false]], none⟩, some ⟨false, 78, 3, (acc).map ST.tc, none⟩] := by
    intro rest
    induction rest with
    | nil =>
      intro pre acc hpre he hal
      have hpre : pre = n.ch := by simpa using hpre
      have hlt : decide ((pre.length : Int) < (n.ch.length : Int)) = false := by rw [hpre]; exact lt_end _
      rw [he, List.map_nil, List.append_nil] at hR
      subst hR
      refine loopN_k fun K1 hK1 => ?_
      unfold ac59_l0
      (repeat' (first | ((with_reducible first | refine aops_cons' fun C hC => ?_ | refine aopsD_cons' fun C hC => ?_ | intro C hC); simp only [go_sem, hlt]; ((with_reducible first | refine finA hC ?_ | refine finD hC ?_); clear hC C)) | (with_reducible first | refine awp_seq_k fun K hK => ?_ | refine awp_reg_k fun K hK => ?_ | refine awp_dreg_k fun K hK => ?_ | (refine aops_nil ?_; refine hK _ _ ?_; try clear hK K) | (refine aopsD_nil ?_; refine hK _ _ _ ?_ ?_; (focus kernel_rfl); try clear hK K) | (refine thn_normal ?_; refine hK _ _ ?_; try clear hK K) | refine catch_normal ?_ | refine awp_skip_k ?_ | refine awp_ret_k ?_ | refine awp_exit_k ?_ | refine awp_block_k ?_ | (refine thn_exit ?_; try clear hK K) | (refine thn_ret ?_; try clear hK K) | refine catch_ret ?_ | refine catch_exit ?_ | (refine catch_other ?_ ?_; focus decide)) | ((with_reducible first | apply aops_guard' | apply aopsD_guard' | apply awp_cond_g); focus (simp only [go_sem, hlt]; exact rfl)) | (with_reducible first | refine gk_tt ?_ | refine gk_ff ?_ | refine ck_t ?_ | refine ck_f ?_) | ((with_reducible first | refine gk_tf ?_ | refine gk_ft ?_ | refine gk_u ?_ | refine gk_u' ?_); first | (intro _ e; (first | rw [put_some] at e | rw [put_none] at e); subst e) | (intro _ _ e e'; (first | rw [put_some] at e | rw [put_none] at e); subst e; subst e'))))
      refine retP_ret (List.range 40) rfl ?_
      rw [ST.enc]
      exact .cons _ _ _ _ (.agg _ _ (.cons _ _ _ _ (.pv _) (.cons _ _ _ _ (.pv _) (.cons _ _ _ _ (row_st (xs := acc) (by decide) rfl rfl) .nil)))) .nil
    | cons c rest ih =>
      intro pre acc hpre he hal
      rw [List.map_cons] at he
      have hlt : decide ((pre.length : Int) < (n.ch.length : Int)) = true := by rw [← hpre]; exact lt_app _ _ _
      have hat : (encI n.ch)[pre.length]? = some (ii c) := by rw [← hpre]; exact encI_at _ _ _
      have hb : pre.length + 1 ≤ big := by have := congrArg List.length hpre; simp at this; unfold big; omega
      have hw := wrapS (n := pre.length) (by unfold big at hb; omega)
      have hc := hrec c (hch c (by rw [← hpre]; simp))
      generalize atT ns f c = q at hc he
      rw [enc_st q] at hc
      unfold AR at hc
      refine loopN_k fun K1 hK1 => ?_
      unfold ac59_l0
      have hub : acc.length + 1 ≤ big := by simp at hal; unfold big; omega
      (repeat' (first | ((first | (with_reducible refine aops_call fun C hC => ?_) | (with_reducible refine aopsD_call fun C hC => ?_) | ((with_reducible intro C hC); (with_reducible refine ax_call_mp ?_))); (first | (simp only [go_sem, hlt, hat, List.length_map, hub]; (first | ((with_reducible apply ACall.pure0 [] (hc)); (focus (exact vwA)))))); (simp only [PV.scal, PV.scalL, if_true, Bool.and_true, Bool.and_false, Bool.false_and, Bool.true_and, frz, List.map_nil, Bool.false_eq_true, if_false, ite_self, hlt, hat, List.length_map, hub]); ((with_reducible first | refine finA hC ?_ | refine finD hC ?_); clear hC C)) | ((with_reducible first | refine aops_cons' fun C hC => ?_ | refine aopsD_cons' fun C hC => ?_ | intro C hC); simp only [go_sem, hlt, hat, List.length_map, hub]; ((with_reducible first | refine finA hC ?_ | refine finD hC ?_); clear hC C)) | (with_reducible first | refine awp_seq_k fun K hK => ?_ | refine awp_reg_k fun K hK => ?_ | refine awp_dreg_k fun K hK => ?_ | (refine aops_nil ?_; refine hK _ _ ?_; try clear hK K) | (refine aopsD_nil ?_; refine hK _ _ _ ?_ ?_; (focus kernel_rfl); try clear hK K) | (refine thn_normal ?_; refine hK _ _ ?_; try clear hK K) | refine catch_normal ?_ | refine awp_skip_k ?_ | refine awp_ret_k ?_ | refine awp_exit_k ?_ | refine awp_block_k ?_ | (refine thn_exit ?_; try clear hK K) | (refine thn_ret ?_; try clear hK K) | refine catch_ret ?_ | refine catch_exit ?_ | (refine catch_other ?_ ?_; focus decide)) | ((with_reducible first | apply aops_guard' | apply aopsD_guard' | apply awp_cond_g); focus (simp only [go_sem, hlt, hat, List.length_map, hub]; exact rfl)) | (with_reducible first | refine gk_tt ?_ | refine gk_ff ?_ | refine ck_t ?_ | refine ck_f ?_) | ((with_reducible first | refine gk_tf ?_ | refine gk_ft ?_ | refine gk_u ?_ | refine gk_u' ?_); first | (intro _ e; (first | rw [put_some] at e | rw [put_none] at e); subst e) | (intro _ _ e e'; (first | rw [put_some] at e | rw [put_none] at e); subst e; subst e'))))
      refine thn_normal ?_
      refine hK1 _ _ _ _ _ (LeB [0, 1, 2, 3, 11] (by refine ⟨?_, ?_, ?_⟩ <;> simp only [leFr, leFb, leHp, V.ren, V.renL, V.bd, V.bdL, allL, lt, Go.Ab.get, hget, List.map_cons, List.map_nil, List.length_cons, List.length_nil, List.length_append, List.getElem?_cons_zero, List.getElem?_cons_succ, List.getElem?_nil, Option.join_some, Option.join_none, List.getD_cons_zero, List.getD_cons_succ, List.getD_nil, Nat.reduceAdd, Nat.reduceLT, Nat.reduceEqDiff, Nat.zero_add, reduceIte, if_true, if_false, and_true, true_and, renL_vcells, allL_vcells, renL_pv, leBlk_some, eq_self, true_or, or_true, reduceCtorEq, false_or, hw, List.length_append, List.map_append, List.map_cons, List.map_nil, renL_st, renL_st1, allL_st, allL_app, bdL_st, allL, ST.tc])) (ih (pre ++ [c]) (acc ++ [q]) (by simp [hpre]) (by rw [he]; simp) (by simp at hal ⊢; omega))
  have first : loopN (awp Try.prog ac59_l0) (catch_ 0 (thn K (retP [RV.cell 4 3 true] [R.enc]))) (n.ch.length + 1)
     [(22, .pv (ii 0)), (21, .pv (ii n.ch.length)), (20, .pv (.list 1 (encI n.ch))), (6, .ptr 3 0 0), (5, .ptr 2 0 0), (4, .ptr 1 0 0), (2, .ptr 0 0 0)] [some ⟨false, 75, 1, [[.pv (.list 4 (encG ns))]], none⟩, some ⟨false, 78, 3, [[.pv (ii 0), .pv (ss ⟨#[]⟩), .pv (.lit (.slice none 0 0))]], none⟩, some ⟨false, 122, 4, [[.pv (ii n.kd), .pv (ii n.w), .pv (ss n.tx), .pv (.list 1 (encI n.ch))]], none⟩, some ⟨false, 78, 3, [[.pv (ii n.kd), .pv (ss n.tx), .pv (.lit (.slice none 0 0))]], none⟩] := by
    cases hch0 : n.ch with
    | nil =>
      rw [hch0, List.map_nil] at hR
      subst hR
      have hlt : decide ((0 : Int) < (([] : List Int).length : Int)) = false := rfl
      refine loopN_k fun K1 hK1 => ?_
      unfold ac59_l0
      (repeat' (first | ((with_reducible first | refine aops_cons' fun C hC => ?_ | refine aopsD_cons' fun C hC => ?_ | intro C hC); simp only [go_sem, hlt]; ((with_reducible first | refine finA hC ?_ | refine finD hC ?_); clear hC C)) | (with_reducible first | refine awp_seq_k fun K hK => ?_ | refine awp_reg_k fun K hK => ?_ | refine awp_dreg_k fun K hK => ?_ | (refine aops_nil ?_; refine hK _ _ ?_; try clear hK K) | (refine aopsD_nil ?_; refine hK _ _ _ ?_ ?_; (focus kernel_rfl); try clear hK K) | (refine thn_normal ?_; refine hK _ _ ?_; try clear hK K) | refine catch_normal ?_ | refine awp_skip_k ?_ | refine awp_ret_k ?_ | refine awp_exit_k ?_ | refine awp_block_k ?_ | (refine thn_exit ?_; try clear hK K) | (refine thn_ret ?_; try clear hK K) | refine catch_ret ?_ | refine catch_exit ?_ | (refine catch_other ?_ ?_; focus decide)) | ((with_reducible first | apply aops_guard' | apply aopsD_guard' | apply awp_cond_g); focus (simp only [go_sem, hlt]; exact rfl)) | (with_reducible first | refine gk_tt ?_ | refine gk_ff ?_ | refine ck_t ?_ | refine ck_f ?_) | ((with_reducible first | refine gk_tf ?_ | refine gk_ft ?_ | refine gk_u ?_ | refine gk_u' ?_); first | (intro _ e; (first | rw [put_some] at e | rw [put_none] at e); subst e) | (intro _ _ e e'; (first | rw [put_some] at e | rw [put_none] at e); subst e; subst e'))))
      (refine retP_ret (List.range 40) rfl ?_; (try simp only [ST.enc, encST, if_true, if_false, Bool.false_eq_true, Bool.not_true, Bool.not_false]); exact vwA)
    | cons c rest =>
      have hlt : decide ((0 : Int) < ((c :: rest).length : Int)) = true := by simp
      have hat : (encI (c :: rest))[0]? = some (ii c) := rfl
      have hc := hrec c (hch c (by rw [hch0]; simp))
      have he : n.ch.map (atT ns f) = atT ns f c :: rest.map (atT ns f) := by rw [hch0]; rfl
      generalize atT ns f c = q at hc he
      rw [enc_st q] at hc
      unfold AR at hc
      have hr1 := rows rest [c] [q] (by rw [hch0]; rfl) he (by rw [hch0] at hlen; simp at hlen ⊢; omega)
      rw [hch0] at hr1
      refine loopN_k fun K1 hK1 => ?_
      unfold ac59_l0
      have hw : IntKind.i64.wrap (0 + 1) = (([c] : List Int).length : Int) := (by decide : IntKind.i64.wrap (0 + 1) = ((1 : Nat) : Int))
      (repeat' (first | ((first | (with_reducible refine aops_call fun C hC => ?_) | (with_reducible refine aopsD_call fun C hC => ?_) | ((with_reducible intro C hC); (with_reducible refine ax_call_mp ?_))); (first | (simp only [go_sem, hlt, hat]; (first | ((with_reducible apply ACall.pure0 [] (hc)); (focus (exact vwA)))))); (simp only [PV.scal, PV.scalL, if_true, Bool.and_true, Bool.and_false, Bool.false_and, Bool.true_and, frz, List.map_nil, Bool.false_eq_true, if_false, ite_self, hlt, hat]); ((with_reducible first | refine finA hC ?_ | refine finD hC ?_); clear hC C)) | ((with_reducible first | refine aops_cons' fun C hC => ?_ | refine aopsD_cons' fun C hC => ?_ | intro C hC); simp only [go_sem, hlt, hat]; ((with_reducible first | refine finA hC ?_ | refine finD hC ?_); clear hC C)) | (with_reducible first | refine awp_seq_k fun K hK => ?_ | refine awp_reg_k fun K hK => ?_ | refine awp_dreg_k fun K hK => ?_ | (refine aops_nil ?_; refine hK _ _ ?_; try clear hK K) | (refine aopsD_nil ?_; refine hK _ _ _ ?_ ?_; (focus kernel_rfl); try clear hK K) | (refine thn_normal ?_; refine hK _ _ ?_; try clear hK K) | refine catch_normal ?_ | refine awp_skip_k ?_ | refine awp_ret_k ?_ | refine awp_exit_k ?_ | refine awp_block_k ?_ | (refine thn_exit ?_; try clear hK K) | (refine thn_ret ?_; try clear hK K) | refine catch_ret ?_ | refine catch_exit ?_ | (refine catch_other ?_ ?_; focus decide)) | ((with_reducible first | apply aops_guard' | apply aopsD_guard' | apply awp_cond_g); focus (simp only [go_sem, hlt, hat]; exact rfl)) | (with_reducible first | refine gk_tt ?_ | refine gk_ff ?_ | refine ck_t ?_ | refine ck_f ?_) | ((with_reducible first | refine gk_tf ?_ | refine gk_ft ?_ | refine gk_u ?_ | refine gk_u' ?_); first | (intro _ e; (first | rw [put_some] at e | rw [put_none] at e); subst e) | (intro _ _ e e'; (first | rw [put_some] at e | rw [put_none] at e); subst e; subst e'))))
      refine thn_normal ?_
      refine hK1 _ _ _ _ _ (LeB [0, 1, 2, 3, 10] (by refine ⟨?_, ?_, ?_⟩ <;> simp only [leFr, leFb, leHp, V.ren, V.renL, V.bd, V.bdL, allL, lt, Go.Ab.get, hget, List.map_cons, List.map_nil, List.length_cons, List.length_nil, List.length_append, List.getElem?_cons_zero, List.getElem?_cons_succ, List.getElem?_nil, Option.join_some, Option.join_none, List.getD_cons_zero, List.getD_cons_succ, List.getD_nil, Nat.reduceAdd, Nat.reduceLT, Nat.reduceEqDiff, Nat.zero_add, reduceIte, if_true, if_false, and_true, true_and, renL_vcells, allL_vcells, renL_pv, leBlk_some, eq_self, true_or, or_true, reduceCtorEq, false_or, hw, List.length_append, List.map_append, List.map_cons, List.map_nil, renL_st, renL_st1, allL_st, allL_app, bdL_st, allL, ST.tc])) hr1
  refine awp_loop_k _ (LeB [0, 1, 2, 3] (by refine ⟨?_, ?_, ?_⟩ <;> simp only [leFr, leFb, leHp, V.ren, V.renL, V.bd, V.bdL, allL, lt, Go.Ab.get, hget, List.map_cons, List.map_nil, List.length_cons, List.length_nil, List.length_append, List.getElem?_cons_zero, List.getElem?_cons_succ, List.getElem?_nil, Option.join_some, Option.join_none, List.getD_cons_zero, List.getD_cons_succ, List.getD_nil, Nat.reduceAdd, Nat.reduceLT, Nat.reduceEqDiff, Nat.zero_add, reduceIte, if_true, if_false, and_true, true_and, renL_vcells, allL_vcells, renL_pv, leBlk_some, eq_self, true_or, or_true, reduceCtorEq, false_or, c0, allL, List.length_nil])) first
theorem atF_ok (ns : List GN) (hdn : Dn ns) : ∀ (f : Nat) (i : Int), (0 ≤ i ∧ i < f ∧ i < ns.length) → PCall Try.prog 59 [AR ns, ii i] (atT ns f i).enc
  | 0, i, hi => by omega
  | f + 1, i, hi => at_step ns hdn f i hi (atF_ok ns hdn f)
def cap (x : Nat) : Int := ((min x 4001 : Nat) : Int)
def szf (ns : List GN) (c : Int) : Nat := tsz ns ns.length c
theorem szf_eq {ns : List GN} (hd : Dn ns) {j : Nat} {n : GN} (hn : ns[j]? = some n) : szf ns j = 1 + (n.ch.map (szf ns)).sum := by
  have hj : j < ns.length := (List.getElem?_eq_some_iff.1 hn).1
  have hdn := hd j n hn
  unfold szf
  rw [tsz_mono hd ns.length (ns.length + 1) j (by omega) (by omega) (by omega) (by omega)]
  simp only [tsz, Int.toNat_natCast, hn]
theorem hrepI (n : Nat) : List.replicate n [V.pv (.lit (.int .i64 0))] = (List.replicate n (0 : Int)).map cI := by simp [cI]
theorem hsetI (S : List Int) (i : Nat) (v : Int) : (S.map cI).set i [V.pv (.lit (.int .i64 v))] = (S.set i v).map cI := by rw [List.map_set]; rfl
theorem hgetI {S : List Int} {i : Nat} {v : Int} (h : S[i]? = some v) : (S.map cI)[i]? = some [V.pv (.lit (.int .i64 v))] := by rw [List.getElem?_map, h]; rfl
set_option maxHeartbeats 4000000 in
theorem tsz_in (ns : List GN) (hdn : Dn ns) (hl : ns.length ≤ 4000) (j : Nat) (n : GN) (hn : ns[j]? = some n) (hlen : n.ch.length ≤ 1099511627776) (S : List Int) (hS : S.length = ns.length) (hs : ∀ c : Nat, c < j → S[c]? = some (cap (szf ns c))) {Q : Exit → Fr → Hp → Prop} (k : Int)
    (hN : Q .normal [(29, .pv (bb false)), (28, .pv (ii n.ch.length)), (27, .pv (ii n.ch.length)), (26, .pv (.list 1 (encI n.ch))), (6, .pv (ii j)), (5, .row 1 ns.length true), (17, .pv (ii j)), (16, .pv (ii ns.length)), (15, .pv (.list 4 (encG ns))), (2, .ptr 0 0 0), (1, .pv (ii k))] [some ⟨false, 75, 1, [[.pv (.list 4 (encG ns))]], none⟩, some ⟨false, 3, 1, (S.set j (cap (szf ns j))).map cI, none⟩]) :
    ∀ (rest pre : List Int) (v : Int), pre ++ rest = n.ch → v = cap (1 + (pre.map (szf ns)).sum) → loopN (awp Try.prog ac58_l0) (catch_ 2 Q) (rest.length + 1)
      [(28, .pv (ii pre.length)), (27, .pv (ii n.ch.length)), (26, .pv (.list 1 (encI n.ch))), (6, .pv (ii j)), (5, .row 1 ns.length true), (17, .pv (ii j)), (16, .pv (ii ns.length)), (15, .pv (.list 4 (encG ns))), (2, .ptr 0 0 0), (1, .pv (ii k))] [some ⟨false, 75, 1, [[.pv (.list 4 (encG ns))]], none⟩, some ⟨false, 3, 1, (S.set j v).map cI, none⟩] := by
  have hj : j < ns.length := (List.getElem?_eq_some_iff.1 hn).1
  intro rest
  induction rest with
  | nil =>
    intro pre v hpre hv
    have hpre : pre = n.ch := by simpa using hpre
    have hlt : decide ((pre.length : Int) < (n.ch.length : Int)) = false := by rw [hpre]; exact lt_end _
    rw [hpre, ← szf_eq hdn hn] at hv
    rw [← hv] at hN
    have hpl : (pre.length : Int) = n.ch.length := by rw [hpre]
    refine loopN_k fun K1 hK1 => ?_
    unfold ac58_l0
    rw [hpl] at hlt ⊢
    (repeat' (first | ((with_reducible first | refine aops_cons' fun C hC => ?_ | refine aopsD_cons' fun C hC => ?_ | intro C hC); simp only [go_sem, hlt]; ((with_reducible first | refine finA hC ?_ | refine finD hC ?_); clear hC C)) | (with_reducible first | refine awp_seq_k fun K hK => ?_ | refine awp_reg_k fun K hK => ?_ | refine awp_dreg_k fun K hK => ?_ | (refine aops_nil ?_; refine hK _ _ ?_; try clear hK K) | (refine aopsD_nil ?_; refine hK _ _ _ ?_ ?_; (focus kernel_rfl); try clear hK K) | (refine thn_normal ?_; refine hK _ _ ?_; try clear hK K) | refine catch_normal ?_ | refine awp_skip_k ?_ | refine awp_ret_k ?_ | refine awp_exit_k ?_ | refine awp_block_k ?_ | (refine thn_exit ?_; try clear hK K) | (refine thn_ret ?_; try clear hK K) | refine catch_ret ?_ | refine catch_exit ?_ | (refine catch_other ?_ ?_; focus decide)) | ((with_reducible first | apply aops_guard' | apply aopsD_guard' | apply awp_cond_g); focus (simp only [go_sem, hlt]; exact rfl)) | (with_reducible first | refine gk_tt ?_ | refine gk_ff ?_ | refine ck_t ?_ | refine ck_f ?_) | ((with_reducible first | refine gk_tf ?_ | refine gk_ft ?_ | refine gk_u ?_ | refine gk_u' ?_); first | (intro _ e; (first | rw [put_some] at e | rw [put_none] at e); subst e) | (intro _ _ e e'; (first | rw [put_some] at e | rw [put_none] at e); subst e; subst e'))))
    exact hN
  | cons c rest ih =>
    intro pre v hpre hv
    clear hN
    have hlt : decide ((pre.length : Int) < (n.ch.length : Int)) = true := by rw [← hpre]; exact lt_app _ _ _
    have hat : (encI n.ch)[pre.length]? = some (ii c) := by rw [← hpre]; exact encI_at _ _ _
    have hb : pre.length + 1 ≤ big := by have := congrArg List.length hpre; simp at this; unfold big; omega
    have hw := wrapS (n := pre.length) (by unfold big at hb; omega)
    have hci := hdn j n hn c (by rw [← hpre]; simp)
    obtain ⟨d, rfl⟩ : ∃ d : Nat, c = (d : Int) := ⟨c.toNat, by omega⟩
    have hdj : d < j := by omega
    have hg1 := hgetI (S := S.set j v) (i := j) (v := v) (by rw [List.getElem?_set_self (by omega)])
    have hg2 := hgetI (S := S.set j v) (i := d) (v := cap (szf ns d)) (by rw [List.getElem?_set_ne (by omega)]; exact hs d hdj)
    have hdl : d < ns.length := by omega
    generalize hq : cap (szf ns d) = q at hg2
    have hw2 : IntKind.i64.wrap (v + q) = v + q := IntWalk.i64_in _ (by rw [hv, ← hq]; unfold cap; omega)
    have hmn : (if (4001 : Int) < v + q then (4001 : Int) else v + q) = cap (1 + ((pre ++ [(d : Int)]).map (szf ns)).sum) := by
      rw [List.map_append, List.sum_append, hv, ← hq]
      unfold cap
      simp only [List.map_cons, List.map_nil, List.sum_cons, List.sum_nil]
      split <;> omega
    have hih := ih (pre ++ [(d : Int)]) _ (by simp [hpre]) rfl
    rw [← hmn] at hih
    refine loopN_k fun K1 hK1 => ?_
    unfold ac58_l0
    (repeat' (first | ((with_reducible first | refine aops_cons' fun C hC => ?_ | refine aopsD_cons' fun C hC => ?_ | intro C hC); simp only [go_sem, hlt, hat, hj, hdl, hg1, hg2, hw2, hsetI, List.set_set]; ((with_reducible first | refine finA hC ?_ | refine finD hC ?_); clear hC C)) | (with_reducible first | refine awp_seq_k fun K hK => ?_ | refine awp_reg_k fun K hK => ?_ | refine awp_dreg_k fun K hK => ?_ | (refine aops_nil ?_; refine hK _ _ ?_; try clear hK K) | (refine aopsD_nil ?_; refine hK _ _ _ ?_ ?_; (focus kernel_rfl); try clear hK K) | (refine thn_normal ?_; refine hK _ _ ?_; try clear hK K) | refine catch_normal ?_ | refine awp_skip_k ?_ | refine awp_ret_k ?_ | refine awp_exit_k ?_ | refine awp_block_k ?_ | (refine thn_exit ?_; try clear hK K) | (refine thn_ret ?_; try clear hK K) | refine catch_ret ?_ | refine catch_exit ?_ | (refine catch_other ?_ ?_; focus decide)) | ((with_reducible first | apply aops_guard' | apply aopsD_guard' | apply awp_cond_g); focus (simp only [go_sem, hlt, hat, hj, hdl, hg1, hg2, hw2, hsetI, List.set_set]; exact rfl)) | (with_reducible first | refine gk_tt ?_ | refine gk_ff ?_ | refine ck_t ?_ | refine ck_f ?_) | ((with_reducible first | refine gk_tf ?_ | refine gk_ft ?_ | refine gk_u ?_ | refine gk_u' ?_); first | (intro _ e; (first | rw [put_some] at e | rw [put_none] at e); subst e) | (intro _ _ e e'; (first | rw [put_some] at e | rw [put_none] at e); subst e; subst e'))))
    refine thn_normal ?_
    refine hK1 _ _ _ _ _ (LeB [0, 1] (by refine ⟨?_, ?_, ?_⟩ <;> simp only [leFr, leFb, leHp, V.ren, V.renL, V.bd, V.bdL, allL, lt, Go.Ab.get, hget, List.map_cons, List.map_nil, List.length_cons, List.length_nil, List.length_append, List.getElem?_cons_zero, List.getElem?_cons_succ, List.getElem?_nil, Option.join_some, Option.join_none, List.getD_cons_zero, List.getD_cons_succ, List.getD_nil, Nat.reduceAdd, Nat.reduceLT, Nat.reduceEqDiff, Nat.zero_add, reduceIte, if_true, if_false, and_true, true_and, renL_vcells, allL_vcells, renL_pv, leBlk_some, eq_self, true_or, or_true, reduceCtorEq, false_or, hw, List.length_append, renL_cI, allL_cI, allL])) hih
set_option maxHeartbeats 4000000 in
theorem atsz_ok (ns : List GN) (hdn : Dn ns) (hl : ns.length ≤ 4000) (k : Nat) (hk : k < ns.length) : PCall Try.prog 58 [AR ns, ii k] (ii (cap (szf ns k))) := by
  refine PCall.intro' (ps := [ii (cap (szf ns k))]) fn58 (by simp) fun hok => ?_
  have hokl : PV.okL (encG ns) := by simp only [AR, PV.okL, PV.ok] at hok; exact hok.1.1.2
  clear hok
  have hbig : ns.length ≤ big := by unfold big; omega
  unfold AR
  unfold ac58
  simp only [argFr]
  (repeat' (first | ((with_reducible first | refine aops_cons' fun C hC => ?_ | refine aopsD_cons' fun C hC => ?_ | intro C hC); simp only [go_sem, vc_agg, encG_len, hrepI, hbig, beq_self_eq_true]; ((with_reducible first | refine finA hC ?_ | refine finD hC ?_); clear hC C)) | (with_reducible first | refine awp_seq_k fun K hK => ?_ | refine awp_reg_k fun K hK => ?_ | refine awp_dreg_k fun K hK => ?_ | (refine aops_nil ?_; refine hK _ _ ?_; try clear hK K) | (refine aopsD_nil ?_; refine hK _ _ _ ?_ ?_; (focus kernel_rfl); try clear hK K) | (refine thn_normal ?_; refine hK _ _ ?_; try clear hK K) | refine catch_normal ?_ | refine awp_skip_k ?_ | refine awp_ret_k ?_ | refine awp_exit_k ?_ | refine awp_block_k ?_ | (refine thn_exit ?_; try clear hK K) | (refine thn_ret ?_; try clear hK K) | refine catch_ret ?_ | refine catch_exit ?_ | (refine catch_other ?_ ?_; focus decide)) | ((with_reducible first | apply aops_guard' | apply aopsD_guard' | apply awp_cond_g); focus (simp only [go_sem, vc_agg, encG_len, hrepI, hbig, beq_self_eq_true]; exact rfl)) | (with_reducible first | refine gk_tt ?_ | refine gk_ff ?_ | refine ck_t ?_ | refine ck_f ?_) | ((with_reducible first | refine gk_tf ?_ | refine gk_ft ?_ | refine gk_u ?_ | refine gk_u' ?_); first | (intro _ e; (first | rw [put_some] at e | rw [put_none] at e); subst e) | (intro _ _ e e'; (first | rw [put_some] at e | rw [put_none] at e); subst e; subst e'))))
  have rows : ∀ (rest pre : List GN) (S : List Int), pre ++ rest = ns → S.length = ns.length → (∀ c : Nat, c < pre.length → S[c]? = some (cap (szf ns c))) → loopN (awp Try.prog ac58_l1) (catch_ 0 (thn K (retP [RV.tmp 4] [ii (cap (szf ns k))]))) (rest.length + 1)
      [(17, .pv (ii pre.length)), (16, .pv (ii ns.length)), (15, .pv (.list 4 (encG ns))), (5, .row 1 ns.length true), (2, .ptr 0 0 0), (1, .pv (ii k))] [some ⟨false, 75, 1, [[.pv (.list 4 (encG ns))]], none⟩, some ⟨false, 3, 1, S.map cI, none⟩] := by
    intro rest
    induction rest with
    | nil =>
      intro pre S hpre hS hs
      have hpre : pre = ns := by simpa using hpre
      have hlt : decide ((pre.length : Int) < (ns.length : Int)) = false := by rw [hpre]; exact lt_end _
      have hg := hgetI (hs k (by rw [hpre]; exact hk))
      refine loopN_k fun K1 hK1 => ?_
      unfold ac58_l1
      (repeat' (first | ((with_reducible first | refine aops_cons' fun C hC => ?_ | refine aopsD_cons' fun C hC => ?_ | intro C hC); simp only [go_sem, hlt, hg, hk]; ((with_reducible first | refine finA hC ?_ | refine finD hC ?_); clear hC C)) | (with_reducible first | refine awp_seq_k fun K hK => ?_ | refine awp_reg_k fun K hK => ?_ | refine awp_dreg_k fun K hK => ?_ | (refine aops_nil ?_; refine hK _ _ ?_; try clear hK K) | (refine aopsD_nil ?_; refine hK _ _ _ ?_ ?_; (focus kernel_rfl); try clear hK K) | (refine thn_normal ?_; refine hK _ _ ?_; try clear hK K) | refine catch_normal ?_ | refine awp_skip_k ?_ | refine awp_ret_k ?_ | refine awp_exit_k ?_ | refine awp_block_k ?_ | (refine thn_exit ?_; try clear hK K) | (refine thn_ret ?_; try clear hK K) | refine catch_ret ?_ | refine catch_exit ?_ | (refine catch_other ?_ ?_; focus decide)) | ((with_reducible first | apply aops_guard' | apply aopsD_guard' | apply awp_cond_g); focus (simp only [go_sem, hlt, hg, hk]; exact rfl)) | (with_reducible first | refine gk_tt ?_ | refine gk_ff ?_ | refine ck_t ?_ | refine ck_f ?_) | ((with_reducible first | refine gk_tf ?_ | refine gk_ft ?_ | refine gk_u ?_ | refine gk_u' ?_); first | (intro _ e; (first | rw [put_some] at e | rw [put_none] at e); subst e) | (intro _ _ e e'; (first | rw [put_some] at e | rw [put_none] at e); subst e; subst e'))))
      (refine retP_ret (List.range 40) rfl ?_; exact vwA)
    | cons n rest ih =>
      intro pre S hpre hS hs
      have hlt : decide ((pre.length : Int) < (ns.length : Int)) = true := by rw [← hpre]; exact lt_app _ _ _
      have hn : ns[pre.length]? = some n := by rw [← hpre]; simp
      have hnt := encG_get hn
      have hj : pre.length < ns.length := (List.getElem?_eq_some_iff.1 hn).1
      have hw := wrapS (n := pre.length) (by omega)
      have hg0 : ∃ x, S[pre.length]? = some x := ⟨_, List.getElem?_eq_getElem (by omega)⟩
      obtain ⟨x, hx⟩ := hg0
      have hg := hgetI hx
      refine loopN_k fun K1 hK1 => ?_
      unfold ac58_l1
      (repeat' (first | ((with_reducible first | refine aops_cons' fun C hC => ?_ | refine aopsD_cons' fun C hC => ?_ | intro C hC); simp only [go_sem, hlt, hnt, hj, hg, pcells_gn, GN.tc, cells_gn, encI_len, hsetI]; ((with_reducible first | refine finA hC ?_ | refine finD hC ?_); clear hC C)) | (with_reducible first | refine awp_seq_k fun K hK => ?_ | refine awp_reg_k fun K hK => ?_ | refine awp_dreg_k fun K hK => ?_ | (refine aops_nil ?_; refine hK _ _ ?_; try clear hK K) | (refine aopsD_nil ?_; refine hK _ _ _ ?_ ?_; (focus kernel_rfl); try clear hK K) | (refine thn_normal ?_; refine hK _ _ ?_; try clear hK K) | refine catch_normal ?_ | refine awp_skip_k ?_ | refine awp_ret_k ?_ | refine awp_exit_k ?_ | refine awp_block_k ?_ | (refine thn_exit ?_; try clear hK K) | (refine thn_ret ?_; try clear hK K) | refine catch_ret ?_ | refine catch_exit ?_ | (refine catch_other ?_ ?_; focus decide)) | ((with_reducible first | apply aops_guard' | apply aopsD_guard' | apply awp_cond_g); focus (simp only [go_sem, hlt, hnt, hj, hg, pcells_gn, GN.tc, cells_gn, encI_len, hsetI]; exact rfl)) | (with_reducible first | refine gk_tt ?_ | refine gk_ff ?_ | refine ck_t ?_ | refine ck_f ?_) | ((with_reducible first | refine gk_tf ?_ | refine gk_ft ?_ | refine gk_u ?_ | refine gk_u' ?_); first | (intro _ e; (first | rw [put_some] at e | rw [put_none] at e); subst e) | (intro _ _ e e'; (first | rw [put_some] at e | rw [put_none] at e); subst e; subst e'))))
      refine awp_loop_k _ (LeB [0, 1] (by refine ⟨?_, ?_, ?_⟩ <;> simp only [leFr, leFb, leHp, V.ren, V.renL, V.bd, V.bdL, allL, lt, Go.Ab.get, hget, List.map_cons, List.map_nil, List.length_cons, List.length_nil, List.length_append, List.getElem?_cons_zero, List.getElem?_cons_succ, List.getElem?_nil, Option.join_some, Option.join_none, List.getD_cons_zero, List.getD_cons_succ, List.getD_nil, Nat.reduceAdd, Nat.reduceLT, Nat.reduceEqDiff, Nat.zero_add, reduceIte, if_true, if_false, and_true, true_and, renL_vcells, allL_vcells, renL_pv, leBlk_some, eq_self, true_or, or_true, reduceCtorEq, false_or, c0, renL_cI, allL_cI, allL])) (tsz_in ns hdn hl pre.length n hn (ok_gn hokl hn) S hS hs k ?_ n.ch [] 1 rfl (by simp [cap]))
      (repeat' (first | ((with_reducible first | refine aops_cons' fun C hC => ?_ | refine aopsD_cons' fun C hC => ?_ | intro C hC); simp only [go_sem]; ((with_reducible first | refine finA hC ?_ | refine finD hC ?_); clear hC C)) | (with_reducible first | refine awp_seq_k fun K hK => ?_ | refine awp_reg_k fun K hK => ?_ | refine awp_dreg_k fun K hK => ?_ | (refine aops_nil ?_; refine hK _ _ ?_; try clear hK K) | (refine aopsD_nil ?_; refine hK _ _ _ ?_ ?_; (focus kernel_rfl); try clear hK K) | (refine thn_normal ?_; refine hK _ _ ?_; try clear hK K) | refine catch_normal ?_ | refine awp_skip_k ?_ | refine awp_ret_k ?_ | refine awp_exit_k ?_ | refine awp_block_k ?_ | (refine thn_exit ?_; try clear hK K) | (refine thn_ret ?_; try clear hK K) | refine catch_ret ?_ | refine catch_exit ?_ | (refine catch_other ?_ ?_; focus decide)) | ((with_reducible first | apply aops_guard' | apply aopsD_guard' | apply awp_cond_g); focus (simp only [go_sem]; exact rfl)) | (with_reducible first | refine gk_tt ?_ | refine gk_ff ?_ | refine ck_t ?_ | refine ck_f ?_) | ((with_reducible first | refine gk_tf ?_ | refine gk_ft ?_ | refine gk_u ?_ | refine gk_u' ?_); first | (intro _ e; (first | rw [put_some] at e | rw [put_none] at e); subst e) | (intro _ _ e e'; (first | rw [put_some] at e | rw [put_none] at e); subst e; subst e'))))
      refine thn_normal ?_
      refine hK1 _ _ _ _ _ (LeB [0, 1] (by refine ⟨?_, ?_, ?_⟩ <;> simp only [leFr, leFb, leHp, V.ren, V.renL, V.bd, V.bdL, allL, lt, Go.Ab.get, hget, List.map_cons, List.map_nil, List.length_cons, List.length_nil, List.length_append, List.getElem?_cons_zero, List.getElem?_cons_succ, List.getElem?_nil, Option.join_some, Option.join_none, List.getD_cons_zero, List.getD_cons_succ, List.getD_nil, Nat.reduceAdd, Nat.reduceLT, Nat.reduceEqDiff, Nat.zero_add, reduceIte, if_true, if_false, and_true, true_and, renL_vcells, allL_vcells, renL_pv, leBlk_some, eq_self, true_or, or_true, reduceCtorEq, false_or, hw, List.length_append, renL_cI, allL_cI, allL])) (ih (pre ++ [n]) (S.set pre.length (cap (szf ns pre.length))) (by simp [hpre]) (by simp [hS]) (fun c hc => ?_))
      by_cases hcp : c = pre.length
      · subst hcp; rw [List.getElem?_set_self (by omega)]
      · rw [List.getElem?_set_ne (by omega)]; exact hs c (by simp at hc; omega)
  refine awp_loop_k _ (LeB [0, 1] (by refine ⟨?_, ?_, ?_⟩ <;> simp only [leFr, leFb, leHp, V.ren, V.renL, V.bd, V.bdL, allL, lt, Go.Ab.get, hget, List.map_cons, List.map_nil, List.length_cons, List.length_nil, List.length_append, List.getElem?_cons_zero, List.getElem?_cons_succ, List.getElem?_nil, Option.join_some, Option.join_none, List.getD_cons_zero, List.getD_cons_succ, List.getD_nil, Nat.reduceAdd, Nat.reduceLT, Nat.reduceEqDiff, Nat.zero_add, reduceIte, if_true, if_false, and_true, true_and, renL_vcells, allL_vcells, renL_pv, leBlk_some, eq_self, true_or, or_true, reduceCtorEq, false_or, c0, List.length_nil, renL_cI, allL_cI, allL])) (rows ns [] (List.replicate ns.length 0) rfl (by simp) (fun c hc => by simp at hc))
-- more
end Go.Proofs.Ytgphapkpoamcgaa
