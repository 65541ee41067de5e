/- T6: joined from V4. -/
import Derived.Test.YtbdoblgofddhdaaT5
/- Traits: CheckProof. -/
set_option maxRecDepth 10000
set_option linter.unusedSimpArgs false
set_option linter.unusedVariables false
namespace Go.Proofs.Ytbdoblgofddhdaa
open Go Go.Ab
set_option maxHeartbeats 8000000 in
theorem chk_leaf_ok (ds : List Dc) (az : List Tb) (t : Ty) (tr bd : Int) (xs : List Ty) (ps : List Prf) : PCall Try.prog 25 [.list 7 (encDc ds), .list 4 (encTb az), (Prf.mk t tr (-1) bd xs ps).enc] (bb (chk ds az (.mk t tr (-1) bd xs ps))) := by
  refine PCall.intro (ps := [bb (chk ds az (.mk t tr (-1) bd xs ps))]) fn25 (by simp) ?_
  have hR : chk ds az (.mk t tr (-1) bd xs ps) = if (if (if (if decide (bd < 0) then true else decide (bd ≥ (az.length : Int))) then true else decide ((xs.length : Int) > 0)) then true else decide ((ps.length : Int) > 0)) then false
      else match az[bd.toNat]? with
        | none => false
        | some b => if b.tr == tr then eqT b.t t else false := by
    rw [chk]; rfl
  rw [hR]
  unfold ac25
  simp only [argFr, Prf.enc]
  cases c1 : decide (bd < 0) with
  | true =>
    (repeat' (first | ((with_reducible first | refine aops_cons' fun C hC => ?_ | refine aopsD_cons' fun C hC => ?_ | intro C hC); simp only [go_sem, c1]; ((with_reducible first | refine finA hC ?_ | refine finD hC ?_); clear hC C)) | (with_reducible first | refine awp_seq_k fun K hK => ?_ | refine awp_reg_k fun K hK => ?_ | refine awp_dreg_k fun K hK => ?_ | (refine aops_nil ?_; refine hK _ _ ?_; try clear hK K) | (refine aopsD_nil ?_; refine hK _ _ _ ?_ ?_; (focus kernel_rfl); try clear hK K) | (refine thn_normal ?_; refine hK _ _ ?_; try clear hK K) | refine catch_normal ?_ | refine awp_skip_k ?_ | refine awp_ret_k ?_ | refine awp_exit_k ?_ | refine awp_block_k ?_ | (refine thn_exit ?_; try clear hK K) | (refine thn_ret ?_; try clear hK K) | refine catch_ret ?_ | refine catch_exit ?_ | (refine catch_other ?_ ?_; focus decide)) | ((with_reducible first | apply aops_guard' | apply aopsD_guard' | apply awp_cond_g); focus (simp only [go_sem, c1]; exact rfl)) | (with_reducible first | refine gk_tt ?_ | refine gk_ff ?_ | refine ck_t ?_ | refine ck_f ?_) | ((with_reducible first | refine gk_tf ?_ | refine gk_ft ?_ | refine gk_u ?_ | refine gk_u' ?_); first | (intro _ e; (first | rw [put_some] at e | rw [put_none] at e); subst e) | (intro _ _ e e'; (first | rw [put_some] at e | rw [put_none] at e); subst e; subst e'))))
    (refine retP_ret (List.range 40) rfl ?_; exact vwA)
  | false =>
    cases c2 : decide (bd ≥ (az.length : Int)) with
    | true =>
      (repeat' (first | ((with_reducible first | refine aops_cons' fun C hC => ?_ | refine aopsD_cons' fun C hC => ?_ | intro C hC); simp only [go_sem, c1, c2, encTb_len]; ((with_reducible first | refine finA hC ?_ | refine finD hC ?_); clear hC C)) | (with_reducible first | refine awp_seq_k fun K hK => ?_ | refine awp_reg_k fun K hK => ?_ | refine awp_dreg_k fun K hK => ?_ | (refine aops_nil ?_; refine hK _ _ ?_; try clear hK K) | (refine aopsD_nil ?_; refine hK _ _ _ ?_ ?_; (focus kernel_rfl); try clear hK K) | (refine thn_normal ?_; refine hK _ _ ?_; try clear hK K) | refine catch_normal ?_ | refine awp_skip_k ?_ | refine awp_ret_k ?_ | refine awp_exit_k ?_ | refine awp_block_k ?_ | (refine thn_exit ?_; try clear hK K) | (refine thn_ret ?_; try clear hK K) | refine catch_ret ?_ | refine catch_exit ?_ | (refine catch_other ?_ ?_; focus decide)) | ((with_reducible first | apply aops_guard' | apply aopsD_guard' | apply awp_cond_g); focus (simp only [go_sem, c1, c2, encTb_len]; exact rfl)) | (with_reducible first | refine gk_tt ?_ | refine gk_ff ?_ | refine ck_t ?_ | refine ck_f ?_) | ((with_reducible first | refine gk_tf ?_ | refine gk_ft ?_ | refine gk_u ?_ | refine gk_u' ?_); first | (intro _ e; (first | rw [put_some] at e | rw [put_none] at e); subst e) | (intro _ _ e e'; (first | rw [put_some] at e | rw [put_none] at e); subst e; subst e'))))
      (refine retP_ret (List.range 40) rfl ?_; exact vwA)
    | false =>
      cases c3 : decide ((xs.length : Int) > 0) with
      | true =>
        (repeat' (first | ((with_reducible first | refine aops_cons' fun C hC => ?_ | refine aopsD_cons' fun C hC => ?_ | intro C hC); simp only [go_sem, c1, c2, c3, encTb_len, encL_len]; ((with_reducible first | refine finA hC ?_ | refine finD hC ?_); clear hC C)) | (with_reducible first | refine awp_seq_k fun K hK => ?_ | refine awp_reg_k fun K hK => ?_ | refine awp_dreg_k fun K hK => ?_ | (refine aops_nil ?_; refine hK _ _ ?_; try clear hK K) | (refine aopsD_nil ?_; refine hK _ _ _ ?_ ?_; (focus kernel_rfl); try clear hK K) | (refine thn_normal ?_; refine hK _ _ ?_; try clear hK K) | refine catch_normal ?_ | refine awp_skip_k ?_ | refine awp_ret_k ?_ | refine awp_exit_k ?_ | refine awp_block_k ?_ | (refine thn_exit ?_; try clear hK K) | (refine thn_ret ?_; try clear hK K) | refine catch_ret ?_ | refine catch_exit ?_ | (refine catch_other ?_ ?_; focus decide)) | ((with_reducible first | apply aops_guard' | apply aopsD_guard' | apply awp_cond_g); focus (simp only [go_sem, c1, c2, c3, encTb_len, encL_len]; exact rfl)) | (with_reducible first | refine gk_tt ?_ | refine gk_ff ?_ | refine ck_t ?_ | refine ck_f ?_) | ((with_reducible first | refine gk_tf ?_ | refine gk_ft ?_ | refine gk_u ?_ | refine gk_u' ?_); first | (intro _ e; (first | rw [put_some] at e | rw [put_none] at e); subst e) | (intro _ _ e e'; (first | rw [put_some] at e | rw [put_none] at e); subst e; subst e'))))
        (refine retP_ret (List.range 40) rfl ?_; exact vwA)
      | false =>
        cases c4 : decide ((ps.length : Int) > 0) with
        | true =>
          (repeat' (first | ((with_reducible first | refine aops_cons' fun C hC => ?_ | refine aopsD_cons' fun C hC => ?_ | intro C hC); simp only [go_sem, c1, c2, c3, c4, encTb_len, encL_len, encPf_len]; ((with_reducible first | refine finA hC ?_ | refine finD hC ?_); clear hC C)) | (with_reducible first | refine awp_seq_k fun K hK => ?_ | refine awp_reg_k fun K hK => ?_ | refine awp_dreg_k fun K hK => ?_ | (refine aops_nil ?_; refine hK _ _ ?_; try clear hK K) | (refine aopsD_nil ?_; refine hK _ _ _ ?_ ?_; (focus kernel_rfl); try clear hK K) | (refine thn_normal ?_; refine hK _ _ ?_; try clear hK K) | refine catch_normal ?_ | refine awp_skip_k ?_ | refine awp_ret_k ?_ | refine awp_exit_k ?_ | refine awp_block_k ?_ | (refine thn_exit ?_; try clear hK K) | (refine thn_ret ?_; try clear hK K) | refine catch_ret ?_ | refine catch_exit ?_ | (refine catch_other ?_ ?_; focus decide)) | ((with_reducible first | apply aops_guard' | apply aopsD_guard' | apply awp_cond_g); focus (simp only [go_sem, c1, c2, c3, c4, encTb_len, encL_len, encPf_len]; exact rfl)) | (with_reducible first | refine gk_tt ?_ | refine gk_ff ?_ | refine ck_t ?_ | refine ck_f ?_) | ((with_reducible first | refine gk_tf ?_ | refine gk_ft ?_ | refine gk_u ?_ | refine gk_u' ?_); first | (intro _ e; (first | rw [put_some] at e | rw [put_none] at e); subst e) | (intro _ _ e e'; (first | rw [put_some] at e | rw [put_none] at e); subst e; subst e'))))
          (refine retP_ret (List.range 40) rfl ?_; exact vwA)
        | false =>
          have hn0 : 0 ≤ bd := by simpa using c1
          have hlt : bd < (az.length : Int) := by simpa using c2
          obtain ⟨b, hb⟩ : ∃ b, az[bd.toNat]? = some b := ⟨_, List.getElem?_eq_getElem (by omega)⟩
          have hat := encTb_get hb
          have heq := equal_ok b.t t
          rw [hb]
          cases h1 : (b.tr == tr) with
          | true =>
            (repeat' (first | ((first | (with_reducible refine aops_call fun C hC => ?_) | (with_reducible refine aopsD_call fun C hC => ?_) | ((with_reducible intro C hC); (with_reducible refine ax_call_mp ?_))); (first | (simp only [go_sem, c1, c2, c3, c4, encTb_len, encL_len, encPf_len, hn0, hat, pcells_tb, h1, cells_enc, Ty.tc]; (first | ((with_reducible apply ACall.pure0 [] (heq)); (focus (exact vwA)))))); (simp only [PV.scal, PV.scalL, if_true, Bool.and_true, Bool.and_false, Bool.false_and, Bool.true_and, frz, List.map_nil, Bool.false_eq_true, if_false, ite_self, c1, c2, c3, c4, encTb_len, encL_len, encPf_len, hn0, hat, pcells_tb, h1, cells_enc, Ty.tc]); ((with_reducible first | refine finA hC ?_ | refine finD hC ?_); clear hC C)) | ((with_reducible first | refine aops_cons' fun C hC => ?_ | refine aopsD_cons' fun C hC => ?_ | intro C hC); simp only [go_sem, c1, c2, c3, c4, encTb_len, encL_len, encPf_len, hn0, hat, pcells_tb, h1, cells_enc, Ty.tc]; ((with_reducible first | refine finA hC ?_ | refine finD hC ?_); clear hC C)) | (with_reducible first | refine awp_seq_k fun K hK => ?_ | refine awp_reg_k fun K hK => ?_ | refine awp_dreg_k fun K hK => ?_ | (refine aops_nil ?_; refine hK _ _ ?_; try clear hK K) | (refine aopsD_nil ?_; refine hK _ _ _ ?_ ?_; (focus kernel_rfl); try clear hK K) | (refine thn_normal ?_; refine hK _ _ ?_; try clear hK K) | refine catch_normal ?_ | refine awp_skip_k ?_ | refine awp_ret_k ?_ | refine awp_exit_k ?_ | refine awp_block_k ?_ | (refine thn_exit ?_; try clear hK K) | (refine thn_ret ?_; try clear hK K) | refine catch_ret ?_ | refine catch_exit ?_ | (refine catch_other ?_ ?_; focus decide)) | ((with_reducible first | apply aops_guard' | apply aopsD_guard' | apply awp_cond_g); focus (simp only [go_sem, c1, c2, c3, c4, encTb_len, encL_len, encPf_len, hn0, hat, pcells_tb, h1, cells_enc, Ty.tc]; exact rfl)) | (with_reducible first | refine gk_tt ?_ | refine gk_ff ?_ | refine ck_t ?_ | refine ck_f ?_) | ((with_reducible first | refine gk_tf ?_ | refine gk_ft ?_ | refine gk_u ?_ | refine gk_u' ?_); first | (intro _ e; (first | rw [put_some] at e | rw [put_none] at e); subst e) | (intro _ _ e e'; (first | rw [put_some] at e | rw [put_none] at e); subst e; subst e'))))
            (refine retP_ret (List.range 40) rfl ?_; (try simp only [h1, if_true, if_false, Bool.false_eq_true, Bool.not_true, Bool.not_false]); exact vwA)
          | false =>
            (repeat' (first | ((first | (with_reducible refine aops_call fun C hC => ?_) | (with_reducible refine aopsD_call fun C hC => ?_) | ((with_reducible intro C hC); (with_reducible refine ax_call_mp ?_))); (first | (simp only [go_sem, c1, c2, c3, c4, encTb_len, encL_len, encPf_len, hn0, hat, pcells_tb, h1, cells_enc, Ty.tc]; (first | ((with_reducible apply ACall.pure0 [] (heq)); (focus (exact vwA)))))); (simp only [PV.scal, PV.scalL, if_true, Bool.and_true, Bool.and_false, Bool.false_and, Bool.true_and, frz, List.map_nil, Bool.false_eq_true, if_false, ite_self, c1, c2, c3, c4, encTb_len, encL_len, encPf_len, hn0, hat, pcells_tb, h1, cells_enc, Ty.tc]); ((with_reducible first | refine finA hC ?_ | refine finD hC ?_); clear hC C)) | ((with_reducible first | refine aops_cons' fun C hC => ?_ | refine aopsD_cons' fun C hC => ?_ | intro C hC); simp only [go_sem, c1, c2, c3, c4, encTb_len, encL_len, encPf_len, hn0, hat, pcells_tb, h1, cells_enc, Ty.tc]; ((with_reducible first | refine finA hC ?_ | refine finD hC ?_); clear hC C)) | (with_reducible first | refine awp_seq_k fun K hK => ?_ | refine awp_reg_k fun K hK => ?_ | refine awp_dreg_k fun K hK => ?_ | (refine aops_nil ?_; refine hK _ _ ?_; try clear hK K) | (refine aopsD_nil ?_; refine hK _ _ _ ?_ ?_; (focus kernel_rfl); try clear hK K) | (refine thn_normal ?_; refine hK _ _ ?_; try clear hK K) | refine catch_normal ?_ | refine awp_skip_k ?_ | refine awp_ret_k ?_ | refine awp_exit_k ?_ | refine awp_block_k ?_ | (refine thn_exit ?_; try clear hK K) | (refine thn_ret ?_; try clear hK K) | refine catch_ret ?_ | refine catch_exit ?_ | (refine catch_other ?_ ?_; focus decide)) | ((with_reducible first | apply aops_guard' | apply aopsD_guard' | apply awp_cond_g); focus (simp only [go_sem, c1, c2, c3, c4, encTb_len, encL_len, encPf_len, hn0, hat, pcells_tb, h1, cells_enc, Ty.tc]; exact rfl)) | (with_reducible first | refine gk_tt ?_ | refine gk_ff ?_ | refine ck_t ?_ | refine ck_f ?_) | ((with_reducible first | refine gk_tf ?_ | refine gk_ft ?_ | refine gk_u ?_ | refine gk_u' ?_); first | (intro _ e; (first | rw [put_some] at e | rw [put_none] at e); subst e) | (intro _ _ e e'; (first | rw [put_some] at e | rw [put_none] at e); subst e; subst e'))))
            (refine retP_ret (List.range 40) rfl ?_; (try simp only [h1, if_true, if_false, Bool.false_eq_true, Bool.not_true, Bool.not_false]); exact vwA)
theorem ok_memP : ∀ {ss : List Prf} {t : Prf}, PV.okL (encPf ss) → t ∈ ss → t.enc.ok
  | [], _, _, h => by cases h
  | s :: ss, t, hok, h => by
    simp only [encPf, PV.okL] at hok
    rcases List.mem_cons.1 h with rfl | h
    · exact hok.1
    · exact ok_memP hok.2 h
set_option maxHeartbeats 8000000 in
theorem chkp_ok (ds : List Dc) (az : List Tb) : ∀ p : Prf, PCall Try.prog 25 [.list 7 (encDc ds), .list 4 (encTb az), p.enc] (bb (chk ds az p))
  | .mk t tr im bd xs ps => by
    have hrec : ∀ q ∈ ps, PCall Try.prog 25 [.list 7 (encDc ds), .list 4 (encTb az), q.enc] (bb (chk ds az q)) := fun q hq => chkp_ok ds az q
    cases him : (im == -1) with
    | true =>
      have : im = -1 := by simpa using him
      subst this
      exact chk_leaf_ok ds az t tr bd xs ps
    | false =>
      have hgen : ∀ r, bb (chk ds az (.mk t tr im bd xs ps)) = r → PCall Try.prog 25 [.list 7 (encDc ds), .list 4 (encTb az), (Prf.mk t tr im bd xs ps).enc] r := by
        intro r hr
        refine PCall.intro' (ps := [r]) fn25 (by simp) fun hok => ?_
        have hbs : ∀ d ∈ ds, d.bs.length ≤ 1099511627776 := by
          intro d hd
          simp only [PV.okL, PV.ok, big] at hok
          have : ∀ {l : List Dc}, PV.okL (encDc l) → ∀ d ∈ l, d.bs.length ≤ 1099511627776 := by
            intro l
            induction l with
            | nil => intro _ d hd; cases hd
            | cons x l ih =>
              intro h d hd
              simp only [encDc, List.map_cons, PV.okL] at h
              rcases List.mem_cons.1 hd with rfl | hd
              · have := h.1
                simp only [Dc.enc, PV.ok, PV.okL, encTb_len, big] at this
                exact this.2.2.2.2.2.1.1
              · exact ih h.2 d hd
          exact this hok.1.2 d hd
        clear hok
        have hR : chk ds az (.mk t tr im bd xs ps) = if (if (if (if !(bd == -1) then true else decide (im < 0)) then true else decide (im ≥ (ds.length : Int))) then true else decide (tr < 0)) then false
            else match ds[im.toNat]? with
              | none => false
              | some d => if (if (if (if !(d.tr == tr) then true else !((xs.length : Int) == (d.ps.length : Int))) then true else !((ps.length : Int) == (d.bs.length : Int))) then true else !eqT (appT d.ps xs d.t) t) then false
                else chkL ds az d.ps xs d.bs ps := by
          rw [chk, him]; rfl
        rw [hR] at hr
        clear hR
        unfold ac25
        simp only [argFr, Prf.enc]
        cases d1 : (bd != -1) with
        | true =>
          have d1' : (bd == -1) = false := by simpa [bne] using d1
          rw [d1'] at hr
          simp only [Bool.not_false, if_true] at hr
          subst hr
          (repeat' (first | ((with_reducible first | refine aops_cons' fun C hC => ?_ | refine aopsD_cons' fun C hC => ?_ | intro C hC); simp only [go_sem, him, d1]; ((with_reducible first | refine finA hC ?_ | refine finD hC ?_); clear hC C)) | (with_reducible first | refine awp_seq_k fun K hK => ?_ | refine awp_reg_k fun K hK => ?_ | refine awp_dreg_k fun K hK => ?_ | (refine aops_nil ?_; refine hK _ _ ?_; try clear hK K) | (refine aopsD_nil ?_; refine hK _ _ _ ?_ ?_; (focus kernel_rfl); try clear hK K) | (refine thn_normal ?_; refine hK _ _ ?_; try clear hK K) | refine catch_normal ?_ | refine awp_skip_k ?_ | refine awp_ret_k ?_ | refine awp_exit_k ?_ | refine awp_block_k ?_ | (refine thn_exit ?_; try clear hK K) | (refine thn_ret ?_; try clear hK K) | refine catch_ret ?_ | refine catch_exit ?_ | (refine catch_other ?_ ?_; focus decide)) | ((with_reducible first | apply aops_guard' | apply aopsD_guard' | apply awp_cond_g); focus (simp only [go_sem, him, d1]; exact rfl)) | (with_reducible first | refine gk_tt ?_ | refine gk_ff ?_ | refine ck_t ?_ | refine ck_f ?_) | ((with_reducible first | refine gk_tf ?_ | refine gk_ft ?_ | refine gk_u ?_ | refine gk_u' ?_); first | (intro _ e; (first | rw [put_some] at e | rw [put_none] at e); subst e) | (intro _ _ e e'; (first | rw [put_some] at e | rw [put_none] at e); subst e; subst e'))))
          (refine retP_ret (List.range 40) rfl ?_; exact vwA)
        | false =>
          have d1' : (bd == -1) = true := by simpa [bne] using d1
          rw [d1'] at hr
          simp only [Bool.not_true, Bool.false_eq_true, if_false] at hr
          cases d2 : decide (im < 0) with
          | true =>
            rw [d2] at hr
            simp only [if_true] at hr
            subst hr
            (repeat' (first | ((with_reducible first | refine aops_cons' fun C hC => ?_ | refine aopsD_cons' fun C hC => ?_ | intro C hC); simp only [go_sem, him, d1, d2]; ((with_reducible first | refine finA hC ?_ | refine finD hC ?_); clear hC C)) | (with_reducible first | refine awp_seq_k fun K hK => ?_ | refine awp_reg_k fun K hK => ?_ | refine awp_dreg_k fun K hK => ?_ | (refine aops_nil ?_; refine hK _ _ ?_; try clear hK K) | (refine aopsD_nil ?_; refine hK _ _ _ ?_ ?_; (focus kernel_rfl); try clear hK K) | (refine thn_normal ?_; refine hK _ _ ?_; try clear hK K) | refine catch_normal ?_ | refine awp_skip_k ?_ | refine awp_ret_k ?_ | refine awp_exit_k ?_ | refine awp_block_k ?_ | (refine thn_exit ?_; try clear hK K) | (refine thn_ret ?_; try clear hK K) | refine catch_ret ?_ | refine catch_exit ?_ | (refine catch_other ?_ ?_; focus decide)) | ((with_reducible first | apply aops_guard' | apply aopsD_guard' | apply awp_cond_g); focus (simp only [go_sem, him, d1, d2]; exact rfl)) | (with_reducible first | refine gk_tt ?_ | refine gk_ff ?_ | refine ck_t ?_ | refine ck_f ?_) | ((with_reducible first | refine gk_tf ?_ | refine gk_ft ?_ | refine gk_u ?_ | refine gk_u' ?_); first | (intro _ e; (first | rw [put_some] at e | rw [put_none] at e); subst e) | (intro _ _ e e'; (first | rw [put_some] at e | rw [put_none] at e); subst e; subst e'))))
            (refine retP_ret (List.range 40) rfl ?_; exact vwA)
          | false =>
            rw [d2] at hr
            simp only [Bool.false_eq_true, if_false] at hr
            cases d3 : decide (im ≥ (ds.length : Int)) with
            | true =>
              rw [d3] at hr
              simp only [if_true] at hr
              subst hr
              (repeat' (first | ((with_reducible first | refine aops_cons' fun C hC => ?_ | refine aopsD_cons' fun C hC => ?_ | intro C hC); simp only [go_sem, him, d1, d2, d3, encDc_len]; ((with_reducible first | refine finA hC ?_ | refine finD hC ?_); clear hC C)) | (with_reducible first | refine awp_seq_k fun K hK => ?_ | refine awp_reg_k fun K hK => ?_ | refine awp_dreg_k fun K hK => ?_ | (refine aops_nil ?_; refine hK _ _ ?_; try clear hK K) | (refine aopsD_nil ?_; refine hK _ _ _ ?_ ?_; (focus kernel_rfl); try clear hK K) | (refine thn_normal ?_; refine hK _ _ ?_; try clear hK K) | refine catch_normal ?_ | refine awp_skip_k ?_ | refine awp_ret_k ?_ | refine awp_exit_k ?_ | refine awp_block_k ?_ | (refine thn_exit ?_; try clear hK K) | (refine thn_ret ?_; try clear hK K) | refine catch_ret ?_ | refine catch_exit ?_ | (refine catch_other ?_ ?_; focus decide)) | ((with_reducible first | apply aops_guard' | apply aopsD_guard' | apply awp_cond_g); focus (simp only [go_sem, him, d1, d2, d3, encDc_len]; exact rfl)) | (with_reducible first | refine gk_tt ?_ | refine gk_ff ?_ | refine ck_t ?_ | refine ck_f ?_) | ((with_reducible first | refine gk_tf ?_ | refine gk_ft ?_ | refine gk_u ?_ | refine gk_u' ?_); first | (intro _ e; (first | rw [put_some] at e | rw [put_none] at e); subst e) | (intro _ _ e e'; (first | rw [put_some] at e | rw [put_none] at e); subst e; subst e'))))
              (refine retP_ret (List.range 40) rfl ?_; exact vwA)
            | false =>
              rw [d3] at hr
              simp only [Bool.false_eq_true, if_false] at hr
              cases d4 : decide (tr < 0) with
              | true =>
                rw [d4] at hr
                simp only [if_true] at hr
                subst hr
                (repeat' (first | ((with_reducible first | refine aops_cons' fun C hC => ?_ | refine aopsD_cons' fun C hC => ?_ | intro C hC); simp only [go_sem, him, d1, d2, d3, d4, encDc_len]; ((with_reducible first | refine finA hC ?_ | refine finD hC ?_); clear hC C)) | (with_reducible first | refine awp_seq_k fun K hK => ?_ | refine awp_reg_k fun K hK => ?_ | refine awp_dreg_k fun K hK => ?_ | (refine aops_nil ?_; refine hK _ _ ?_; try clear hK K) | (refine aopsD_nil ?_; refine hK _ _ _ ?_ ?_; (focus kernel_rfl); try clear hK K) | (refine thn_normal ?_; refine hK _ _ ?_; try clear hK K) | refine catch_normal ?_ | refine awp_skip_k ?_ | refine awp_ret_k ?_ | refine awp_exit_k ?_ | refine awp_block_k ?_ | (refine thn_exit ?_; try clear hK K) | (refine thn_ret ?_; try clear hK K) | refine catch_ret ?_ | refine catch_exit ?_ | (refine catch_other ?_ ?_; focus decide)) | ((with_reducible first | apply aops_guard' | apply aopsD_guard' | apply awp_cond_g); focus (simp only [go_sem, him, d1, d2, d3, d4, encDc_len]; exact rfl)) | (with_reducible first | refine gk_tt ?_ | refine gk_ff ?_ | refine ck_t ?_ | refine ck_f ?_) | ((with_reducible first | refine gk_tf ?_ | refine gk_ft ?_ | refine gk_u ?_ | refine gk_u' ?_); first | (intro _ e; (first | rw [put_some] at e | rw [put_none] at e); subst e) | (intro _ _ e e'; (first | rw [put_some] at e | rw [put_none] at e); subst e; subst e'))))
                (refine retP_ret (List.range 40) rfl ?_; exact vwA)
              | false =>
                rw [d4] at hr
                simp only [Bool.false_eq_true, if_false] at hr
                have hn0 : 0 ≤ im := by simpa using d2
                have hlt : im < (ds.length : Int) := by simpa using d3
                obtain ⟨d, hd⟩ : ∃ d, ds[im.toNat]? = some d := ⟨_, List.getElem?_eq_getElem (by omega)⟩
                have hat := encDc_get hd
                rw [hd] at hr
                simp only at hr
                have hap := apply_ok d.t d.ps xs
                have heq := equal_ok (appT d.ps xs d.t) t
                have hbl := hbs d (List.mem_of_getElem? hd)
                cases e1 : (d.tr != tr) with
                | true =>
                  have e1' : (d.tr == tr) = false := by simpa [bne] using e1
                  rw [e1'] at hr
                  simp only [Bool.not_false, if_true] at hr
                  subst hr
                  (repeat' (first | ((with_reducible first | refine aops_cons' fun C hC => ?_ | refine aopsD_cons' fun C hC => ?_ | intro C hC); simp only [go_sem, him, d1, d2, d3, d4, encDc_len, hn0, hat, pcells_dc, e1]; ((with_reducible first | refine finA hC ?_ | refine finD hC ?_); clear hC C)) | (with_reducible first | refine awp_seq_k fun K hK => ?_ | refine awp_reg_k fun K hK => ?_ | refine awp_dreg_k fun K hK => ?_ | (refine aops_nil ?_; refine hK _ _ ?_; try clear hK K) | (refine aopsD_nil ?_; refine hK _ _ _ ?_ ?_; (focus kernel_rfl); try clear hK K) | (refine thn_normal ?_; refine hK _ _ ?_; try clear hK K) | refine catch_normal ?_ | refine awp_skip_k ?_ | refine awp_ret_k ?_ | refine awp_exit_k ?_ | refine awp_block_k ?_ | (refine thn_exit ?_; try clear hK K) | (refine thn_ret ?_; try clear hK K) | refine catch_ret ?_ | refine catch_exit ?_ | (refine catch_other ?_ ?_; focus decide)) | ((with_reducible first | apply aops_guard' | apply aopsD_guard' | apply awp_cond_g); focus (simp only [go_sem, him, d1, d2, d3, d4, encDc_len, hn0, hat, pcells_dc, e1]; exact rfl)) | (with_reducible first | refine gk_tt ?_ | refine gk_ff ?_ | refine ck_t ?_ | refine ck_f ?_) | ((with_reducible first | refine gk_tf ?_ | refine gk_ft ?_ | refine gk_u ?_ | refine gk_u' ?_); first | (intro _ e; (first | rw [put_some] at e | rw [put_none] at e); subst e) | (intro _ _ e e'; (first | rw [put_some] at e | rw [put_none] at e); subst e; subst e'))))
                  (refine retP_ret (List.range 40) rfl ?_; exact vwA)
                | false =>
                  have e1' : (d.tr == tr) = true := by simpa [bne] using e1
                  rw [e1'] at hr
                  simp only [Bool.not_true, Bool.false_eq_true, if_false] at hr
                  cases e2 : ((xs.length : Int) != (d.ps.length : Int)) with
                  | true =>
                    have e2' : ((xs.length : Int) == (d.ps.length : Int)) = false := by simpa [bne] using e2
                    rw [e2'] at hr
                    simp only [Bool.not_false, if_true] at hr
                    subst hr
                    (repeat' (first | ((with_reducible first | refine aops_cons' fun C hC => ?_ | refine aopsD_cons' fun C hC => ?_ | intro C hC); simp only [go_sem, him, d1, d2, d3, d4, encDc_len, hn0, hat, pcells_dc, e1, e2, encL_len, encI_len]; ((with_reducible first | refine finA hC ?_ | refine finD hC ?_); clear hC C)) | (with_reducible first | refine awp_seq_k fun K hK => ?_ | refine awp_reg_k fun K hK => ?_ | refine awp_dreg_k fun K hK => ?_ | (refine aops_nil ?_; refine hK _ _ ?_; try clear hK K) | (refine aopsD_nil ?_; refine hK _ _ _ ?_ ?_; (focus kernel_rfl); try clear hK K) | (refine thn_normal ?_; refine hK _ _ ?_; try clear hK K) | refine catch_normal ?_ | refine awp_skip_k ?_ | refine awp_ret_k ?_ | refine awp_exit_k ?_ | refine awp_block_k ?_ | (refine thn_exit ?_; try clear hK K) | (refine thn_ret ?_; try clear hK K) | refine catch_ret ?_ | refine catch_exit ?_ | (refine catch_other ?_ ?_; focus decide)) | ((with_reducible first | apply aops_guard' | apply aopsD_guard' | apply awp_cond_g); focus (simp only [go_sem, him, d1, d2, d3, d4, encDc_len, hn0, hat, pcells_dc, e1, e2, encL_len, encI_len]; exact rfl)) | (with_reducible first | refine gk_tt ?_ | refine gk_ff ?_ | refine ck_t ?_ | refine ck_f ?_) | ((with_reducible first | refine gk_tf ?_ | refine gk_ft ?_ | refine gk_u ?_ | refine gk_u' ?_); first | (intro _ e; (first | rw [put_some] at e | rw [put_none] at e); subst e) | (intro _ _ e e'; (first | rw [put_some] at e | rw [put_none] at e); subst e; subst e'))))
                    (refine retP_ret (List.range 40) rfl ?_; exact vwA)
                  | false =>
                    have e2' : ((xs.length : Int) == (d.ps.length : Int)) = true := by simpa [bne] using e2
                    rw [e2'] at hr
                    simp only [Bool.not_true, Bool.false_eq_true, if_false] at hr
                    cases e3 : ((ps.length : Int) != (d.bs.length : Int)) with
                    | true =>
                      have e3' : ((ps.length : Int) == (d.bs.length : Int)) = false := by simpa [bne] using e3
                      rw [e3'] at hr
                      simp only [Bool.not_false, if_true] at hr
                      subst hr
                      (repeat' (first | ((with_reducible first | refine aops_cons' fun C hC => ?_ | refine aopsD_cons' fun C hC => ?_ | intro C hC); simp only [go_sem, him, d1, d2, d3, d4, encDc_len, hn0, hat, pcells_dc, e1, e2, e3, encL_len, encI_len, encPf_len, encTb_len]; ((with_reducible first | refine finA hC ?_ | refine finD hC ?_); clear hC C)) | (with_reducible first | refine awp_seq_k fun K hK => ?_ | refine awp_reg_k fun K hK => ?_ | refine awp_dreg_k fun K hK => ?_ | (refine aops_nil ?_; refine hK _ _ ?_; try clear hK K) | (refine aopsD_nil ?_; refine hK _ _ _ ?_ ?_; (focus kernel_rfl); try clear hK K) | (refine thn_normal ?_; refine hK _ _ ?_; try clear hK K) | refine catch_normal ?_ | refine awp_skip_k ?_ | refine awp_ret_k ?_ | refine awp_exit_k ?_ | refine awp_block_k ?_ | (refine thn_exit ?_; try clear hK K) | (refine thn_ret ?_; try clear hK K) | refine catch_ret ?_ | refine catch_exit ?_ | (refine catch_other ?_ ?_; focus decide)) | ((with_reducible first | apply aops_guard' | apply aopsD_guard' | apply awp_cond_g); focus (simp only [go_sem, him, d1, d2, d3, d4, encDc_len, hn0, hat, pcells_dc, e1, e2, e3, encL_len, encI_len, encPf_len, encTb_len]; exact rfl)) | (with_reducible first | refine gk_tt ?_ | refine gk_ff ?_ | refine ck_t ?_ | refine ck_f ?_) | ((with_reducible first | refine gk_tf ?_ | refine gk_ft ?_ | refine gk_u ?_ | refine gk_u' ?_); first | (intro _ e; (first | rw [put_some] at e | rw [put_none] at e); subst e) | (intro _ _ e e'; (first | rw [put_some] at e | rw [put_none] at e); subst e; subst e'))))
                      (refine retP_ret (List.range 40) rfl ?_; exact vwA)
                    | false =>
                      have e3' : ((ps.length : Int) == (d.bs.length : Int)) = true := by simpa [bne] using e3
                      rw [e3'] at hr
                      simp only [Bool.not_true, Bool.false_eq_true, if_false] at hr
                      cases e4 : eqT (appT d.ps xs d.t) t with
                      | false =>
                        rw [e4] at hr heq
                        simp only [Bool.not_false, if_true] at hr
                        subst hr
                        (repeat' (first | ((first | (with_reducible refine aops_call fun C hC => ?_) | (with_reducible refine aopsD_call fun C hC => ?_) | ((with_reducible intro C hC); (with_reducible refine ax_call_mp ?_))); (first | (simp only [go_sem, him, d1, d2, d3, d4, encDc_len, hn0, hat, pcells_dc, e1, e2, e3, encL_len, encI_len, encPf_len, encTb_len, cells_enc, Ty.tc]; (first | ((with_reducible apply ACall.pure0 [] (hap)); (focus (exact vwA))) | ((with_reducible apply ACall.pure0 [] (heq)); (focus (exact vwA)))))); (simp only [PV.scal, PV.scalL, if_true, Bool.and_true, Bool.and_false, Bool.false_and, Bool.true_and, frz, List.map_nil, Bool.false_eq_true, if_false, ite_self, him, d1, d2, d3, d4, encDc_len, hn0, hat, pcells_dc, e1, e2, e3, encL_len, encI_len, encPf_len, encTb_len, cells_enc, Ty.tc]); ((with_reducible first | refine finA hC ?_ | refine finD hC ?_); clear hC C)) | ((with_reducible first | refine aops_cons' fun C hC => ?_ | refine aopsD_cons' fun C hC => ?_ | intro C hC); simp only [go_sem, him, d1, d2, d3, d4, encDc_len, hn0, hat, pcells_dc, e1, e2, e3, encL_len, encI_len, encPf_len, encTb_len, cells_enc, Ty.tc]; ((with_reducible first | refine finA hC ?_ | refine finD hC ?_); clear hC C)) | (with_reducible first | refine awp_seq_k fun K hK => ?_ | refine awp_reg_k fun K hK => ?_ | refine awp_dreg_k fun K hK => ?_ | (refine aops_nil ?_; refine hK _ _ ?_; try clear hK K) | (refine aopsD_nil ?_; refine hK _ _ _ ?_ ?_; (focus kernel_rfl); try clear hK K) | (refine thn_normal ?_; refine hK _ _ ?_; try clear hK K) | refine catch_normal ?_ | refine awp_skip_k ?_ | refine awp_ret_k ?_ | refine awp_exit_k ?_ | refine awp_block_k ?_ | (refine thn_exit ?_; try clear hK K) | (refine thn_ret ?_; try clear hK K) | refine catch_ret ?_ | refine catch_exit ?_ | (refine catch_other ?_ ?_; focus decide)) | ((with_reducible first | apply aops_guard' | apply aopsD_guard' | apply awp_cond_g); focus (simp only [go_sem, him, d1, d2, d3, d4, encDc_len, hn0, hat, pcells_dc, e1, e2, e3, encL_len, encI_len, encPf_len, encTb_len, cells_enc, Ty.tc]; exact rfl)) | (with_reducible first | refine gk_tt ?_ | refine gk_ff ?_ | refine ck_t ?_ | refine ck_f ?_) | ((with_reducible first | refine gk_tf ?_ | refine gk_ft ?_ | refine gk_u ?_ | refine gk_u' ?_); first | (intro _ e; (first | rw [put_some] at e | rw [put_none] at e); subst e) | (intro _ _ e e'; (first | rw [put_some] at e | rw [put_none] at e); subst e; subst e'))))
                        (refine retP_ret (List.range 40) rfl ?_; exact vwA)
                      | true =>
                        rw [e4] at hr heq
                        simp only [Bool.not_true, Bool.false_eq_true, if_false] at hr
                        (repeat' (first | ((first | (with_reducible refine aops_call fun C hC => ?_) | (with_reducible refine aopsD_call fun C hC => ?_) | ((with_reducible intro C hC); (with_reducible refine ax_call_mp ?_))); (first | (simp only [go_sem, him, d1, d2, d3, d4, encDc_len, hn0, hat, pcells_dc, e1, e2, e3, encL_len, encI_len, encPf_len, encTb_len, cells_enc, Ty.tc]; (first | ((with_reducible apply ACall.pure0 [] (hap)); (focus (exact vwA))) | ((with_reducible apply ACall.pure0 [] (heq)); (focus (exact vwA)))))); (simp only [PV.scal, PV.scalL, if_true, Bool.and_true, Bool.and_false, Bool.false_and, Bool.true_and, frz, List.map_nil, Bool.false_eq_true, if_false, ite_self, him, d1, d2, d3, d4, encDc_len, hn0, hat, pcells_dc, e1, e2, e3, encL_len, encI_len, encPf_len, encTb_len, cells_enc, Ty.tc]); ((with_reducible first | refine finA hC ?_ | refine finD hC ?_); clear hC C)) | ((with_reducible first | refine aops_cons' fun C hC => ?_ | refine aopsD_cons' fun C hC => ?_ | intro C hC); simp only [go_sem, him, d1, d2, d3, d4, encDc_len, hn0, hat, pcells_dc, e1, e2, e3, encL_len, encI_len, encPf_len, encTb_len, cells_enc, Ty.tc]; ((with_reducible first | refine finA hC ?_ | refine finD hC ?_); clear hC C)) | (with_reducible first | refine awp_seq_k fun K hK => ?_ | refine awp_reg_k fun K hK => ?_ | refine awp_dreg_k fun K hK => ?_ | (refine aops_nil ?_; refine hK _ _ ?_; try clear hK K) | (refine aopsD_nil ?_; refine hK _ _ _ ?_ ?_; (focus kernel_rfl); try clear hK K) | (refine thn_normal ?_; refine hK _ _ ?_; try clear hK K) | refine catch_normal ?_ | refine awp_skip_k ?_ | refine awp_ret_k ?_ | refine awp_exit_k ?_ | refine awp_block_k ?_ | (refine thn_exit ?_; try clear hK K) | (refine thn_ret ?_; try clear hK K) | refine catch_ret ?_ | refine catch_exit ?_ | (refine catch_other ?_ ?_; focus decide)) | ((with_reducible first | apply aops_guard' | apply aopsD_guard' | apply awp_cond_g); focus (simp only [go_sem, him, d1, d2, d3, d4, encDc_len, hn0, hat, pcells_dc, e1, e2, e3, encL_len, encI_len, encPf_len, encTb_len, cells_enc, Ty.tc]; exact rfl)) | (with_reducible first | refine gk_tt ?_ | refine gk_ff ?_ | refine ck_t ?_ | refine ck_f ?_) | ((with_reducible first | refine gk_tf ?_ | refine gk_ft ?_ | refine gk_u ?_ | refine gk_u' ?_); first | (intro _ e; (first | rw [put_some] at e | rw [put_none] at e); subst e) | (intro _ _ e e'; (first | rw [put_some] at e | rw [put_none] at e); subst e; subst e'))))
                        have hps : ps.length = d.bs.length := by have h : (ps.length : Int) = (d.bs.length : Int) := (by simpa using e3'); omega
                        have rows : ∀ (rest : List Tb) (rp : List Prf) (pre : List Tb) (prp : List Prf), pre ++ rest = d.bs → prp ++ rp = ps → pre.length = prp.length → chkL ds az d.ps xs d.bs ps = chkL ds az d.ps xs rest rp →
                            loopN (awp Try.prog ac25_l0) (catch_ 0 (thn K (retP [RV.tmp 6] [r]))) (rest.length + 1)
                             [(118, .pv (ii pre.length)), (117, .pv (ii d.bs.length)), (116, .pv (.list 4 (encTb d.bs))), (8, .ptr 1 0 0), (5, .ptr 0 0 0), (1, .pv (.list 4 (encTb az))), (0, .pv (.list 7 (encDc ds)))]
                             [some ⟨false, 30, 8, [[.pv (ii t.kd), .pv (ii t.id), .pv (.list 3 (encL t.args)), .pv (ii tr), .pv (ii im), .pv (ii bd), .pv (.list 3 (encL xs)), .pv (.list 8 (encPf ps))]], none⟩,
                              some ⟨false, 40, 7, [[.pv (.list 1 (encI d.ps)), .pv (ii d.t.kd), .pv (ii d.t.id), .pv (.list 3 (encL d.t.args)), .pv (ii d.tr), .pv (.list 4 (encTb d.bs)), .pv d.ms]], none⟩] := by
                          intro rest
                          induction rest with
                          | nil =>
                            intro rp pre prp hpre hprp hll he
                            have hpre : pre = d.bs := by simpa using hpre
                            rw [he] at hr
                            simp only [chkL] at hr
                            subst hr
                            refine loopN_k fun K1 hK1 => ?_
                            unfold ac25_l0
                            rw [hpre]
                            (repeat' (first | ((with_reducible first | refine aops_cons' fun C hC => ?_ | refine aopsD_cons' fun C hC => ?_ | intro C hC); simp only [go_sem, lt_end]; ((with_reducible first | refine finA hC ?_ | refine finD hC ?_); clear hC C)) | (with_reducible first | refine awp_seq_k fun K hK => ?_ | refine awp_reg_k fun K hK => ?_ | refine awp_dreg_k fun K hK => ?_ | (refine aops_nil ?_; refine hK _ _ ?_; try clear hK K) | (refine aopsD_nil ?_; refine hK _ _ _ ?_ ?_; (focus kernel_rfl); try clear hK K) | (refine thn_normal ?_; refine hK _ _ ?_; try clear hK K) | refine catch_normal ?_ | refine awp_skip_k ?_ | refine awp_ret_k ?_ | refine awp_exit_k ?_ | refine awp_block_k ?_ | (refine thn_exit ?_; try clear hK K) | (refine thn_ret ?_; try clear hK K) | refine catch_ret ?_ | refine catch_exit ?_ | (refine catch_other ?_ ?_; focus decide)) | ((with_reducible first | apply aops_guard' | apply aopsD_guard' | apply awp_cond_g); focus (simp only [go_sem, lt_end]; exact rfl)) | (with_reducible first | refine gk_tt ?_ | refine gk_ff ?_ | refine ck_t ?_ | refine ck_f ?_) | ((with_reducible first | refine gk_tf ?_ | refine gk_ft ?_ | refine gk_u ?_ | refine gk_u' ?_); first | (intro _ e; (first | rw [put_some] at e | rw [put_none] at e); subst e) | (intro _ _ e e'; (first | rw [put_some] at e | rw [put_none] at e); subst e; subst e'))))
                            (refine retP_ret (List.range 40) rfl ?_; exact vwA)
                          | cons b rest ih =>
                            intro rp pre prp hpre hprp hll he
                            cases rp with
                            | nil =>
                              have h1 := congrArg List.length hpre
                              have h2 := congrArg List.length hprp
                              simp at h1 h2; omega
                            | cons q rp =>
                            have hlt : decide ((pre.length : Int) < (d.bs.length : Int)) = true := by rw [← hpre]; exact lt_app _ _ _
                            have hbt : (encTb d.bs)[pre.length]? = some b.enc := by rw [← hpre]; exact encTb_at _ _ _
                            have hqt : (encPf ps)[pre.length]? = some q.enc := by rw [hll, ← hprp]; exact encPf_at _ _ _
                            have hb : pre.length + 1 ≤ big := by have := congrArg List.length hpre; simp at this; unfold big; omega
                            have hw := wrapS (n := pre.length) (by unfold big at hb; omega)
                            have hap2 := apply_ok b.t d.ps xs
                            have heq2 := equal_ok q.t (appT d.ps xs b.t)
                            have hc := hrec q (by rw [← hprp]; simp)
                            rw [encp_eq] at hc
                            simp only [chkL] at he
                            refine loopN_k fun K1 hK1 => ?_
                            unfold ac25_l0
                            cases f1 : (q.tr != b.tr) with
                            | true =>
                              have f1' : (q.tr == b.tr) = false := by simpa [bne] using f1
                              rw [f1'] at he
                              simp only [Bool.not_false, if_true] at he
                              rw [he] at hr; subst hr
                              (repeat' (first | ((with_reducible first | refine aops_cons' fun C hC => ?_ | refine aopsD_cons' fun C hC => ?_ | intro C hC); simp only [go_sem, hlt, hbt, hqt, pcells_tb, pcells_prf, Prf.tc, cells_prf, f1]; ((with_reducible first | refine finA hC ?_ | refine finD hC ?_); clear hC C)) | (with_reducible first | refine awp_seq_k fun K hK => ?_ | refine awp_reg_k fun K hK => ?_ | refine awp_dreg_k fun K hK => ?_ | (refine aops_nil ?_; refine hK _ _ ?_; try clear hK K) | (refine aopsD_nil ?_; refine hK _ _ _ ?_ ?_; (focus kernel_rfl); try clear hK K) | (refine thn_normal ?_; refine hK _ _ ?_; try clear hK K) | refine catch_normal ?_ | refine awp_skip_k ?_ | refine awp_ret_k ?_ | refine awp_exit_k ?_ | refine awp_block_k ?_ | (refine thn_exit ?_; try clear hK K) | (refine thn_ret ?_; try clear hK K) | refine catch_ret ?_ | refine catch_exit ?_ | (refine catch_other ?_ ?_; focus decide)) | ((with_reducible first | apply aops_guard' | apply aopsD_guard' | apply awp_cond_g); focus (simp only [go_sem, hlt, hbt, hqt, pcells_tb, pcells_prf, Prf.tc, cells_prf, f1]; exact rfl)) | (with_reducible first | refine gk_tt ?_ | refine gk_ff ?_ | refine ck_t ?_ | refine ck_f ?_) | ((with_reducible first | refine gk_tf ?_ | refine gk_ft ?_ | refine gk_u ?_ | refine gk_u' ?_); first | (intro _ e; (first | rw [put_some] at e | rw [put_none] at e); subst e) | (intro _ _ e e'; (first | rw [put_some] at e | rw [put_none] at e); subst e; subst e'))))
                              (refine retP_ret (List.range 40) rfl ?_; exact vwA)
                            | false =>
                              have f1' : (q.tr == b.tr) = true := by simpa [bne] using f1
                              rw [f1'] at he
                              simp only [Bool.not_true, Bool.false_eq_true, if_false] at he
                              cases f2 : eqT q.t (appT d.ps xs b.t) with
                              | false =>
                                rw [f2] at he heq2
                                simp only [Bool.not_false, if_true] at he
                                rw [he] at hr; subst hr
                                (repeat' (first | ((first | (with_reducible refine aops_call fun C hC => ?_) | (with_reducible refine aopsD_call fun C hC => ?_) | ((with_reducible intro C hC); (with_reducible refine ax_call_mp ?_))); (first | (simp only [go_sem, hlt, hbt, hqt, pcells_tb, pcells_prf, Prf.tc, cells_prf, f1, cells_enc, Ty.tc]; (first | ((with_reducible apply ACall.pure0 [] (hap2)); (focus (exact vwA))) | ((with_reducible apply ACall.pure0 [] (heq2)); (focus (exact vwA)))))); (simp only [PV.scal, PV.scalL, if_true, Bool.and_true, Bool.and_false, Bool.false_and, Bool.true_and, frz, List.map_nil, Bool.false_eq_true, if_false, ite_self, hlt, hbt, hqt, pcells_tb, pcells_prf, Prf.tc, cells_prf, f1, cells_enc, Ty.tc]); ((with_reducible first | refine finA hC ?_ | refine finD hC ?_); clear hC C)) | ((with_reducible first | refine aops_cons' fun C hC => ?_ | refine aopsD_cons' fun C hC => ?_ | intro C hC); simp only [go_sem, hlt, hbt, hqt, pcells_tb, pcells_prf, Prf.tc, cells_prf, f1, cells_enc, Ty.tc]; ((with_reducible first | refine finA hC ?_ | refine finD hC ?_); clear hC C)) | (with_reducible first | refine awp_seq_k fun K hK => ?_ | refine awp_reg_k fun K hK => ?_ | refine awp_dreg_k fun K hK => ?_ | (refine aops_nil ?_; refine hK _ _ ?_; try clear hK K) | (refine aopsD_nil ?_; refine hK _ _ _ ?_ ?_; (focus kernel_rfl); try clear hK K) | (refine thn_normal ?_; refine hK _ _ ?_; try clear hK K) | refine catch_normal ?_ | refine awp_skip_k ?_ | refine awp_ret_k ?_ | refine awp_exit_k ?_ | refine awp_block_k ?_ | (refine thn_exit ?_; try clear hK K) | (refine thn_ret ?_; try clear hK K) | refine catch_ret ?_ | refine catch_exit ?_ | (refine catch_other ?_ ?_; focus decide)) | ((with_reducible first | apply aops_guard' | apply aopsD_guard' | apply awp_cond_g); focus (simp only [go_sem, hlt, hbt, hqt, pcells_tb, pcells_prf, Prf.tc, cells_prf, f1, cells_enc, Ty.tc]; exact rfl)) | (with_reducible first | refine gk_tt ?_ | refine gk_ff ?_ | refine ck_t ?_ | refine ck_f ?_) | ((with_reducible first | refine gk_tf ?_ | refine gk_ft ?_ | refine gk_u ?_ | refine gk_u' ?_); first | (intro _ e; (first | rw [put_some] at e | rw [put_none] at e); subst e) | (intro _ _ e e'; (first | rw [put_some] at e | rw [put_none] at e); subst e; subst e'))))
                                (refine retP_ret (List.range 40) rfl ?_; exact vwA)
                              | true =>
                                rw [f2] at he heq2
                                simp only [Bool.not_true, Bool.false_eq_true, if_false] at he
                                cases f3 : chk ds az q with
                                | false =>
                                  rw [f3] at he hc
                                  simp only [Bool.not_false, if_true] at he
                                  rw [he] at hr; subst hr
                                  (repeat' (first | ((first | (with_reducible refine aops_call fun C hC => ?_) | (with_reducible refine aopsD_call fun C hC => ?_) | ((with_reducible intro C hC); (with_reducible refine ax_call_mp ?_))); (first | (simp only [go_sem, hlt, hbt, hqt, pcells_tb, pcells_prf, Prf.tc, cells_prf, f1, cells_enc, Ty.tc]; (first | ((with_reducible apply ACall.pure0 [] (hap2)); (focus (exact vwA))) | ((with_reducible apply ACall.pure0 [] (heq2)); (focus (exact vwA))) | ((with_reducible apply ACall.pure0 [] (hc)); (focus (exact vwA)))))); (simp only [PV.scal, PV.scalL, if_true, Bool.and_true, Bool.and_false, Bool.false_and, Bool.true_and, frz, List.map_nil, Bool.false_eq_true, if_false, ite_self, hlt, hbt, hqt, pcells_tb, pcells_prf, Prf.tc, cells_prf, f1, cells_enc, Ty.tc]); ((with_reducible first | refine finA hC ?_ | refine finD hC ?_); clear hC C)) | ((with_reducible first | refine aops_cons' fun C hC => ?_ | refine aopsD_cons' fun C hC => ?_ | intro C hC); simp only [go_sem, hlt, hbt, hqt, pcells_tb, pcells_prf, Prf.tc, cells_prf, f1, cells_enc, Ty.tc]; ((with_reducible first | refine finA hC ?_ | refine finD hC ?_); clear hC C)) | (with_reducible first | refine awp_seq_k fun K hK => ?_ | refine awp_reg_k fun K hK => ?_ | refine awp_dreg_k fun K hK => ?_ | (refine aops_nil ?_; refine hK _ _ ?_; try clear hK K) | (refine aopsD_nil ?_; refine hK _ _ _ ?_ ?_; (focus kernel_rfl); try clear hK K) | (refine thn_normal ?_; refine hK _ _ ?_; try clear hK K) | refine catch_normal ?_ | refine awp_skip_k ?_ | refine awp_ret_k ?_ | refine awp_exit_k ?_ | refine awp_block_k ?_ | (refine thn_exit ?_; try clear hK K) | (refine thn_ret ?_; try clear hK K) | refine catch_ret ?_ | refine catch_exit ?_ | (refine catch_other ?_ ?_; focus decide)) | ((with_reducible first | apply aops_guard' | apply aopsD_guard' | apply awp_cond_g); focus (simp only [go_sem, hlt, hbt, hqt, pcells_tb, pcells_prf, Prf.tc, cells_prf, f1, cells_enc, Ty.tc]; exact rfl)) | (with_reducible first | refine gk_tt ?_ | refine gk_ff ?_ | refine ck_t ?_ | refine ck_f ?_) | ((with_reducible first | refine gk_tf ?_ | refine gk_ft ?_ | refine gk_u ?_ | refine gk_u' ?_); first | (intro _ e; (first | rw [put_some] at e | rw [put_none] at e); subst e) | (intro _ _ e e'; (first | rw [put_some] at e | rw [put_none] at e); subst e; subst e'))))
                                  (refine retP_ret (List.range 40) rfl ?_; exact vwA)
                                | true =>
                                  rw [f3] at he hc
                                  simp only [Bool.not_true, Bool.false_eq_true, if_false] at he
                                  (repeat' (first | ((first | (with_reducible refine aops_call fun C hC => ?_) | (with_reducible refine aopsD_call fun C hC => ?_) | ((with_reducible intro C hC); (with_reducible refine ax_call_mp ?_))); (first | (simp only [go_sem, hlt, hbt, hqt, pcells_tb, pcells_prf, Prf.tc, cells_prf, f1, cells_enc, Ty.tc]; (first | ((with_reducible apply ACall.pure0 [] (hap2)); (focus (exact vwA))) | ((with_reducible apply ACall.pure0 [] (heq2)); (focus (exact vwA))) | ((with_reducible apply ACall.pure0 [] (hc)); (focus (exact vwA)))))); (simp only [PV.scal, PV.scalL, if_true, Bool.and_true, Bool.and_false, Bool.false_and, Bool.true_and, frz, List.map_nil, Bool.false_eq_true, if_false, ite_self, hlt, hbt, hqt, pcells_tb, pcells_prf, Prf.tc, cells_prf, f1, cells_enc, Ty.tc]); ((with_reducible first | refine finA hC ?_ | refine finD hC ?_); clear hC C)) | ((with_reducible first | refine aops_cons' fun C hC => ?_ | refine aopsD_cons' fun C hC => ?_ | intro C hC); simp only [go_sem, hlt, hbt, hqt, pcells_tb, pcells_prf, Prf.tc, cells_prf, f1, cells_enc, Ty.tc]; ((with_reducible first | refine finA hC ?_ | refine finD hC ?_); clear hC C)) | (with_reducible first | refine awp_seq_k fun K hK => ?_ | refine awp_reg_k fun K hK => ?_ | refine awp_dreg_k fun K hK => ?_ | (refine aops_nil ?_; refine hK _ _ ?_; try clear hK K) | (refine aopsD_nil ?_; refine hK _ _ _ ?_ ?_; (focus kernel_rfl); try clear hK K) | (refine thn_normal ?_; refine hK _ _ ?_; try clear hK K) | refine catch_normal ?_ | refine awp_skip_k ?_ | refine awp_ret_k ?_ | refine awp_exit_k ?_ | refine awp_block_k ?_ | (refine thn_exit ?_; try clear hK K) | (refine thn_ret ?_; try clear hK K) | refine catch_ret ?_ | refine catch_exit ?_ | (refine catch_other ?_ ?_; focus decide)) | ((with_reducible first | apply aops_guard' | apply aopsD_guard' | apply awp_cond_g); focus (simp only [go_sem, hlt, hbt, hqt, pcells_tb, pcells_prf, Prf.tc, cells_prf, f1, cells_enc, Ty.tc]; exact rfl)) | (with_reducible first | refine gk_tt ?_ | refine gk_ff ?_ | refine ck_t ?_ | refine ck_f ?_) | ((with_reducible first | refine gk_tf ?_ | refine gk_ft ?_ | refine gk_u ?_ | refine gk_u' ?_); first | (intro _ e; (first | rw [put_some] at e | rw [put_none] at e); subst e) | (intro _ _ e e'; (first | rw [put_some] at e | rw [put_none] at e); subst e; subst e'))))
                                  refine thn_normal ?_
                                  refine hK1 _ _ _ _ _ (LeB [0, 1] (by refine ⟨?_, ?_, ?_⟩ <;> simp only [leFr, leFb, leHp, V.ren, V.renL, V.bd, V.bdL, allL, lt, Go.Ab.get, hget, List.map_cons, List.map_nil, List.length_cons, List.length_nil, List.length_append, List.getElem?_cons_zero, List.getElem?_cons_succ, List.getElem?_nil, Option.join_some, Option.join_none, List.getD_cons_zero, List.getD_cons_succ, List.getD_nil, Nat.reduceAdd, Nat.reduceLT, Nat.reduceEqDiff, Nat.zero_add, reduceIte, if_true, if_false, and_true, true_and, renL_vcells, allL_vcells, renL_pv, leBlk_some, eq_self, true_or, or_true, reduceCtorEq, false_or, hw, List.length_append])) (ih rp (pre ++ [b]) (prp ++ [q]) (by simp [hpre]) (by simp [hprp]) (by simp [hll]) he)
                        refine awp_loop_k _ (LeB [0, 1] (by refine ⟨?_, ?_, ?_⟩ <;> simp only [leFr, leFb, leHp, V.ren, V.renL, V.bd, V.bdL, allL, lt, Go.Ab.get, hget, List.map_cons, List.map_nil, List.length_cons, List.length_nil, List.length_append, List.getElem?_cons_zero, List.getElem?_cons_succ, List.getElem?_nil, Option.join_some, Option.join_none, List.getD_cons_zero, List.getD_cons_succ, List.getD_nil, Nat.reduceAdd, Nat.reduceLT, Nat.reduceEqDiff, Nat.zero_add, reduceIte, if_true, if_false, and_true, true_and, renL_vcells, allL_vcells, renL_pv, leBlk_some, eq_self, true_or, or_true, reduceCtorEq, false_or, c0])) (rows d.bs ps [] [] rfl rfl rfl rfl)
      exact hgen _ rfl
termination_by p => SizeOf.sizeOf p
decreasing_by
  have := List.sizeOf_lt_of_mem hq
  simp only [Prf.mk.sizeOf_spec]; omega
end Go.Proofs.Ytbdoblgofddhdaa
