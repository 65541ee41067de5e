/- Q12: joined from Q12. -/
import Derived.Test.YtbdoblgofddhdaaFnR
import Derived.Test.YtbdoblgofddhdaaQ11
/- Exhaustiveness: Validate. -/
set_option maxRecDepth 10000
set_option linter.unusedSimpArgs false
set_option linter.unusedVariables false
namespace Go.Proofs.Ytbdoblgofddhdaa
open Go Go.Ab
-- vwT vwW
def vvL (ds : List Dm) : List Vr → List Vr → Bool
  | _, [] => true
  | pre, v :: rest => if (if pre.any (fun u => u.id == v.id) then true else v.fs.any (fun f => !vdom ds f)) then false else vvL ds (pre ++ [v]) rest
def badD (d : Dm) : Bool := if (if decide (d.k < 0) then true else decide (d.k > 3)) then true else if d.k != 1 then decide ((d.vs.length : Int) > 0) else false
def vvD (ds : List Dm) (d : Dm) : Bool := if badD d then false else vvL ds [] d.vs
theorem encVr_take {vs pre : List Vr} {v : Vr} {rest : List Vr} (h : pre ++ v :: rest = vs) : (encVr vs).take pre.length = encVr pre := by
  subst h; unfold encVr; rw [List.map_append, List.take_left' (by simp)]
set_option maxHeartbeats 4000000 in
theorem vvD_ok (ds : List Dm) (d : Dm) : PCall Try.prog 103 [mx ds, d.enc] (bb (vvD ds d)) := by
  generalize hb : vvD ds d = b
  unfold vvD badD at hb
  refine PCall.intro' (ps := [bb b]) fn103 (by simp) fun hok => ?_
  have hvs : d.vs.length ≤ 1099511627776 := by
    rw [dm_enc] at hok
    simp only [PV.okL, PV.ok, encVr_len, big] at hok; exact hok.2.1.2.1.1
  clear hok
  unfold ac103
  simp only [argFr, dm_enc]
  have main : ∀ {K : Fr → Hp → Prop}, vvL ds [] d.vs = b → (∀ fr H, awp Try.prog ((AC.reg [⟨some 4, .mov (.const (.bool true)), none⟩]).seq AC.ret) (retP [RV.tmp 4] [bb b]) fr H → K fr H) →
      ∀ (rest pre : List Vr), pre ++ rest = d.vs → vvL ds [] d.vs = vvL ds pre rest → loopN (awp Try.prog ac103_l0) (catch_ 0 (thn K (retP [RV.tmp 4] [bb b]))) (rest.length + 1)
      [(30, .pv (ii pre.length)), (29, .pv (ii d.vs.length)), (28, .pv (.list 2 (encVr d.vs))), (3, .ptr 1 0 0), (2, .ptr 0 0 0)]
      [some ⟨false, 138, 1, [[.pv (.list 2 (encDm ds))]], none⟩, some ⟨false, 132, 2, [[.pv (ii d.k), .pv (.list 2 (encVr d.vs))]], none⟩] := by
    intro K hb hK rest
    induction rest with
    | nil =>
      intro pre hpre hi
      have hpre : pre = d.vs := by simpa using hpre
      rw [hi] at hb
      simp only [vvL] at hb
      subst hb
      rw [← hpre]
      refine loopN_k fun K1 hK1 => ?_
      unfold ac103_l0
      (repeat' (first | ((with_reducible first | refine aops_cons' fun C hC => ?_ | refine aopsD_cons' fun C hC => ?_ | intro C hC); simp only [go_sem, lt_end]; ((with_reducible first | refine finA hC ?_ | refine finD hC ?_); clear hC C)) | (with_reducible first | refine awp_seq_k fun K hK => ?_ | refine awp_reg_k fun K hK => ?_ | refine awp_dreg_k fun K hK => ?_ | (refine aops_nil ?_; refine hK _ _ ?_; try clear hK K) | (refine aopsD_nil ?_; refine hK _ _ _ ?_ ?_; (focus kernel_rfl); try clear hK K) | (refine thn_normal ?_; refine hK _ _ ?_; try clear hK K) | refine catch_normal ?_ | refine awp_skip_k ?_ | refine awp_ret_k ?_ | refine awp_exit_k ?_ | refine awp_block_k ?_ | (refine thn_exit ?_; try clear hK K) | (refine thn_ret ?_; try clear hK K) | refine catch_ret ?_ | refine catch_exit ?_ | (refine catch_other ?_ ?_; focus decide)) | ((with_reducible first | apply aops_guard' | apply aopsD_guard' | apply awp_cond_g); focus (simp only [go_sem, lt_end]; exact rfl)) | (with_reducible first | refine gk_tt ?_ | refine gk_ff ?_ | refine ck_t ?_ | refine ck_f ?_) | ((with_reducible first | refine gk_tf ?_ | refine gk_ft ?_ | refine gk_u ?_ | refine gk_u' ?_); first | (intro _ e; (first | rw [put_some] at e | rw [put_none] at e); subst e) | (intro _ _ e e'; (first | rw [put_some] at e | rw [put_none] at e); subst e; subst e'))))
      (refine retP_ret (List.range 40) rfl ?_; (first | exact vwA | exact vwT | exact vwW))
    | cons v rest ih =>
      intro pre hpre hi
      have hlt : decide ((pre.length : Int) < (d.vs.length : Int)) = true := by rw [← hpre]; exact lt_app _ _ _
      have hat : (encVr d.vs)[pre.length]? = some v.enc := by rw [← hpre]; exact encVr_at _ _ _
      have hw := wrapS (n := pre.length) (by have := congrArg List.length hpre; simp at this; omega)
      have htk := encVr_take hpre
      have hle : pre.length ≤ d.vs.length := by rw [← hpre]; simp
      have hx := hasVr_ok 156 [.rptr [ii v.id, .list 1 (encI v.fs)]] (fun u => u.id == v.id) pre (fun u _ => vid2_ok v u)
      have hy := hasJ_ok 157 [.rptr [.list 2 (encDm ds)]] (fun f => !vdom ds f) v.fs (fun f _ => ndom_ok ds f)
      simp only [vvL] at hi
      refine loopN_k fun K1 hK1 => ?_
      unfold ac103_l0
      cases h1 : pre.any (fun u => u.id == v.id) with
      | true =>
        rw [h1] at hx
        rw [hi] at hb
        simp only [h1, if_true] at hb
        subst hb
        (repeat' (first | ((first | (with_reducible refine aops_call fun C hC => ?_) | (with_reducible refine aopsD_call fun C hC => ?_) | ((with_reducible intro C hC); (with_reducible refine ax_call_mp ?_))); (first | (simp only [go_sem, hlt, hat, pcells_vr, encVr_len, Nat.zero_le, Nat.le_refl, hle, htk]; (first | ((with_reducible apply ACall.pure0 [2] (hx)); (focus ((first | exact vwA | exact vwT | exact vwW))))))); (simp only [PV.scal, PV.scalL, if_true, Bool.and_true, Bool.and_false, Bool.false_and, Bool.true_and, frz, List.map_nil, Bool.false_eq_true, if_false, ite_self, go_sem, hlt, hat, pcells_vr, encVr_len, Nat.zero_le, Nat.le_refl, hle, htk]); ((with_reducible first | refine finA hC ?_ | refine finD hC ?_); clear hC C)) | ((with_reducible first | refine aops_cons' fun C hC => ?_ | refine aopsD_cons' fun C hC => ?_ | intro C hC); simp only [go_sem, hlt, hat, pcells_vr, encVr_len, Nat.zero_le, Nat.le_refl, hle, htk]; ((with_reducible first | refine finA hC ?_ | refine finD hC ?_); clear hC C)) | (with_reducible first | refine awp_seq_k fun K hK => ?_ | refine awp_reg_k fun K hK => ?_ | refine awp_dreg_k fun K hK => ?_ | (refine aops_nil ?_; refine hK _ _ ?_; try clear hK K) | (refine aopsD_nil ?_; refine hK _ _ _ ?_ ?_; (focus kernel_rfl); try clear hK K) | (refine thn_normal ?_; refine hK _ _ ?_; try clear hK K) | refine catch_normal ?_ | refine awp_skip_k ?_ | refine awp_ret_k ?_ | refine awp_exit_k ?_ | refine awp_block_k ?_ | (refine thn_exit ?_; try clear hK K) | (refine thn_ret ?_; try clear hK K) | refine catch_ret ?_ | refine catch_exit ?_ | (refine catch_other ?_ ?_; focus decide)) | ((with_reducible first | apply aops_guard' | apply aopsD_guard' | apply awp_cond_g); focus (simp only [go_sem, hlt, hat, pcells_vr, encVr_len, Nat.zero_le, Nat.le_refl, hle, htk]; exact rfl)) | (with_reducible first | refine gk_tt ?_ | refine gk_ff ?_ | refine ck_t ?_ | refine ck_f ?_) | ((with_reducible first | refine gk_tf ?_ | refine gk_ft ?_ | refine gk_u ?_ | refine gk_u' ?_); first | (intro _ e; (first | rw [put_some] at e | rw [put_none] at e); subst e) | (intro _ _ e e'; (first | rw [put_some] at e | rw [put_none] at e); subst e; subst e'))))
        (refine retP_ret (List.range 40) rfl ?_; (first | exact vwA | exact vwT | exact vwW))
      | false =>
        rw [h1] at hx
        cases h2 : v.fs.any (fun f => !vdom ds f) with
        | true =>
          rw [h2] at hy
          rw [hi] at hb
          simp only [h1, h2, Bool.false_eq_true, if_false, if_true] at hb
          subst hb
          (repeat' (first | ((first | (with_reducible refine aops_call fun C hC => ?_) | (with_reducible refine aopsD_call fun C hC => ?_) | ((with_reducible intro C hC); (with_reducible refine ax_call_mp ?_))); (first | (simp only [go_sem, hlt, hat, pcells_vr, encVr_len, Nat.zero_le, Nat.le_refl, hle, htk]; (first | ((with_reducible apply ACall.pure0 [2] (hx)); (focus ((first | exact vwA | exact vwT | exact vwW)))) | ((with_reducible apply ACall.pure0 [0] (hy)); (focus ((first | exact vwA | exact vwT | exact vwW))))))); (simp only [PV.scal, PV.scalL, if_true, Bool.and_true, Bool.and_false, Bool.false_and, Bool.true_and, frz, List.map_nil, Bool.false_eq_true, if_false, ite_self, go_sem, hlt, hat, pcells_vr, encVr_len, Nat.zero_le, Nat.le_refl, hle, htk]); ((with_reducible first | refine finA hC ?_ | refine finD hC ?_); clear hC C)) | ((with_reducible first | refine aops_cons' fun C hC => ?_ | refine aopsD_cons' fun C hC => ?_ | intro C hC); simp only [go_sem, hlt, hat, pcells_vr, encVr_len, Nat.zero_le, Nat.le_refl, hle, htk]; ((with_reducible first | refine finA hC ?_ | refine finD hC ?_); clear hC C)) | (with_reducible first | refine awp_seq_k fun K hK => ?_ | refine awp_reg_k fun K hK => ?_ | refine awp_dreg_k fun K hK => ?_ | (refine aops_nil ?_; refine hK _ _ ?_; try clear hK K) | (refine aopsD_nil ?_; refine hK _ _ _ ?_ ?_; (focus kernel_rfl); try clear hK K) | (refine thn_normal ?_; refine hK _ _ ?_; try clear hK K) | refine catch_normal ?_ | refine awp_skip_k ?_ | refine awp_ret_k ?_ | refine awp_exit_k ?_ | refine awp_block_k ?_ | (refine thn_exit ?_; try clear hK K) | (refine thn_ret ?_; try clear hK K) | refine catch_ret ?_ | refine catch_exit ?_ | (refine catch_other ?_ ?_; focus decide)) | ((with_reducible first | apply aops_guard' | apply aopsD_guard' | apply awp_cond_g); focus (simp only [go_sem, hlt, hat, pcells_vr, encVr_len, Nat.zero_le, Nat.le_refl, hle, htk]; exact rfl)) | (with_reducible first | refine gk_tt ?_ | refine gk_ff ?_ | refine ck_t ?_ | refine ck_f ?_) | ((with_reducible first | refine gk_tf ?_ | refine gk_ft ?_ | refine gk_u ?_ | refine gk_u' ?_); first | (intro _ e; (first | rw [put_some] at e | rw [put_none] at e); subst e) | (intro _ _ e e'; (first | rw [put_some] at e | rw [put_none] at e); subst e; subst e'))))
          (refine retP_ret (List.range 40) rfl ?_; (first | exact vwA | exact vwT | exact vwW))
        | false =>
          rw [h2] at hy
          simp only [h1, h2, Bool.false_eq_true, if_false] at hi
          (repeat' (first | ((first | (with_reducible refine aops_call fun C hC => ?_) | (with_reducible refine aopsD_call fun C hC => ?_) | ((with_reducible intro C hC); (with_reducible refine ax_call_mp ?_))); (first | (simp only [go_sem, hlt, hat, pcells_vr, encVr_len, Nat.zero_le, Nat.le_refl, hle, htk]; (first | ((with_reducible apply ACall.pure0 [2] (hx)); (focus ((first | exact vwA | exact vwT | exact vwW)))) | ((with_reducible apply ACall.pure0 [0] (hy)); (focus ((first | exact vwA | exact vwT | exact vwW))))))); (simp only [PV.scal, PV.scalL, if_true, Bool.and_true, Bool.and_false, Bool.false_and, Bool.true_and, frz, List.map_nil, Bool.false_eq_true, if_false, ite_self, go_sem, hlt, hat, pcells_vr, encVr_len, Nat.zero_le, Nat.le_refl, hle, htk]); ((with_reducible first | refine finA hC ?_ | refine finD hC ?_); clear hC C)) | ((with_reducible first | refine aops_cons' fun C hC => ?_ | refine aopsD_cons' fun C hC => ?_ | intro C hC); simp only [go_sem, hlt, hat, pcells_vr, encVr_len, Nat.zero_le, Nat.le_refl, hle, htk]; ((with_reducible first | refine finA hC ?_ | refine finD hC ?_); clear hC C)) | (with_reducible first | refine awp_seq_k fun K hK => ?_ | refine awp_reg_k fun K hK => ?_ | refine awp_dreg_k fun K hK => ?_ | (refine aops_nil ?_; refine hK _ _ ?_; try clear hK K) | (refine aopsD_nil ?_; refine hK _ _ _ ?_ ?_; (focus kernel_rfl); try clear hK K) | (refine thn_normal ?_; refine hK _ _ ?_; try clear hK K) | refine catch_normal ?_ | refine awp_skip_k ?_ | refine awp_ret_k ?_ | refine awp_exit_k ?_ | refine awp_block_k ?_ | (refine thn_exit ?_; try clear hK K) | (refine thn_ret ?_; try clear hK K) | refine catch_ret ?_ | refine catch_exit ?_ | (refine catch_other ?_ ?_; focus decide)) | ((with_reducible first | apply aops_guard' | apply aopsD_guard' | apply awp_cond_g); focus (simp only [go_sem, hlt, hat, pcells_vr, encVr_len, Nat.zero_le, Nat.le_refl, hle, htk]; exact rfl)) | (with_reducible first | refine gk_tt ?_ | refine gk_ff ?_ | refine ck_t ?_ | refine ck_f ?_) | ((with_reducible first | refine gk_tf ?_ | refine gk_ft ?_ | refine gk_u ?_ | refine gk_u' ?_); first | (intro _ e; (first | rw [put_some] at e | rw [put_none] at e); subst e) | (intro _ _ e e'; (first | rw [put_some] at e | rw [put_none] at e); subst e; subst e'))))
          refine thn_normal ?_
          refine hK1 _ _ _ _ _ (LeB [0, 1] (by refine ⟨?_, ?_, ?_⟩ <;> simp only [leFr, leFb, leHp, V.ren, V.renL, V.bd, V.bdL, allL, lt, Go.Ab.get, hget, List.map_cons, List.map_nil, List.length_cons, List.length_nil, List.length_append, List.getElem?_cons_zero, List.getElem?_cons_succ, List.getElem?_nil, Option.join_some, Option.join_none, List.getD_cons_zero, List.getD_cons_succ, List.getD_nil, Nat.reduceAdd, Nat.reduceLT, Nat.reduceEqDiff, Nat.zero_add, reduceIte, if_true, if_false, and_true, true_and, renL_vcells, allL_vcells, renL_pv, leBlk_some, eq_self, true_or, or_true, reduceCtorEq, false_or, hw, List.length_append])) (ih (pre ++ [v]) (by simp [hpre]) hi)
  cases h1 : decide (d.k < 0) with
  | true =>
    simp only [h1, if_true] at hb
    subst hb
    clear main
    (repeat' (first | ((with_reducible first | refine aops_cons' fun C hC => ?_ | refine aopsD_cons' fun C hC => ?_ | intro C hC); simp only [go_sem, h1]; ((with_reducible first | refine finA hC ?_ | refine finD hC ?_); clear hC C)) | (with_reducible first | refine awp_seq_k fun K hK => ?_ | refine awp_reg_k fun K hK => ?_ | refine awp_dreg_k fun K hK => ?_ | (refine aops_nil ?_; refine hK _ _ ?_; try clear hK K) | (refine aopsD_nil ?_; refine hK _ _ _ ?_ ?_; (focus kernel_rfl); try clear hK K) | (refine thn_normal ?_; refine hK _ _ ?_; try clear hK K) | refine catch_normal ?_ | refine awp_skip_k ?_ | refine awp_ret_k ?_ | refine awp_exit_k ?_ | refine awp_block_k ?_ | (refine thn_exit ?_; try clear hK K) | (refine thn_ret ?_; try clear hK K) | refine catch_ret ?_ | refine catch_exit ?_ | (refine catch_other ?_ ?_; focus decide)) | ((with_reducible first | apply aops_guard' | apply aopsD_guard' | apply awp_cond_g); focus (simp only [go_sem, h1]; exact rfl)) | (with_reducible first | refine gk_tt ?_ | refine gk_ff ?_ | refine ck_t ?_ | refine ck_f ?_) | ((with_reducible first | refine gk_tf ?_ | refine gk_ft ?_ | refine gk_u ?_ | refine gk_u' ?_); first | (intro _ e; (first | rw [put_some] at e | rw [put_none] at e); subst e) | (intro _ _ e e'; (first | rw [put_some] at e | rw [put_none] at e); subst e; subst e'))))
    (refine retP_ret (List.range 40) rfl ?_; (first | exact vwA | exact vwT | exact vwW))
  | false =>
    cases h2 : decide (d.k > 3) with
    | true =>
      simp only [h1, h2, if_true, Bool.false_eq_true, if_false] at hb
      subst hb
      clear main
      (repeat' (first | ((with_reducible first | refine aops_cons' fun C hC => ?_ | refine aopsD_cons' fun C hC => ?_ | intro C hC); simp only [go_sem, h1, h2]; ((with_reducible first | refine finA hC ?_ | refine finD hC ?_); clear hC C)) | (with_reducible first | refine awp_seq_k fun K hK => ?_ | refine awp_reg_k fun K hK => ?_ | refine awp_dreg_k fun K hK => ?_ | (refine aops_nil ?_; refine hK _ _ ?_; try clear hK K) | (refine aopsD_nil ?_; refine hK _ _ _ ?_ ?_; (focus kernel_rfl); try clear hK K) | (refine thn_normal ?_; refine hK _ _ ?_; try clear hK K) | refine catch_normal ?_ | refine awp_skip_k ?_ | refine awp_ret_k ?_ | refine awp_exit_k ?_ | refine awp_block_k ?_ | (refine thn_exit ?_; try clear hK K) | (refine thn_ret ?_; try clear hK K) | refine catch_ret ?_ | refine catch_exit ?_ | (refine catch_other ?_ ?_; focus decide)) | ((with_reducible first | apply aops_guard' | apply aopsD_guard' | apply awp_cond_g); focus (simp only [go_sem, h1, h2]; exact rfl)) | (with_reducible first | refine gk_tt ?_ | refine gk_ff ?_ | refine ck_t ?_ | refine ck_f ?_) | ((with_reducible first | refine gk_tf ?_ | refine gk_ft ?_ | refine gk_u ?_ | refine gk_u' ?_); first | (intro _ e; (first | rw [put_some] at e | rw [put_none] at e); subst e) | (intro _ _ e e'; (first | rw [put_some] at e | rw [put_none] at e); subst e; subst e'))))
      (refine retP_ret (List.range 40) rfl ?_; (first | exact vwA | exact vwT | exact vwW))
    | false =>
      cases h3 : (d.k == 1) with
      | true =>
        simp only [h1, h2, h3, bne, Bool.not_true, Bool.false_eq_true, if_false] at hb
        (repeat' (first | ((with_reducible first | refine aops_cons' fun C hC => ?_ | refine aopsD_cons' fun C hC => ?_ | intro C hC); simp only [go_sem, h1, h2, h3, bne, encVr_len]; ((with_reducible first | refine finA hC ?_ | refine finD hC ?_); clear hC C)) | (with_reducible first | refine awp_seq_k fun K hK => ?_ | refine awp_reg_k fun K hK => ?_ | refine awp_dreg_k fun K hK => ?_ | (refine aops_nil ?_; refine hK _ _ ?_; try clear hK K) | (refine aopsD_nil ?_; refine hK _ _ _ ?_ ?_; (focus kernel_rfl); try clear hK K) | (refine thn_normal ?_; refine hK _ _ ?_; try clear hK K) | refine catch_normal ?_ | refine awp_skip_k ?_ | refine awp_ret_k ?_ | refine awp_exit_k ?_ | refine awp_block_k ?_ | (refine thn_exit ?_; try clear hK K) | (refine thn_ret ?_; try clear hK K) | refine catch_ret ?_ | refine catch_exit ?_ | (refine catch_other ?_ ?_; focus decide)) | ((with_reducible first | apply aops_guard' | apply aopsD_guard' | apply awp_cond_g); focus (simp only [go_sem, h1, h2, h3, bne, encVr_len]; exact rfl)) | (with_reducible first | refine gk_tt ?_ | refine gk_ff ?_ | refine ck_t ?_ | refine ck_f ?_) | ((with_reducible first | refine gk_tf ?_ | refine gk_ft ?_ | refine gk_u ?_ | refine gk_u' ?_); first | (intro _ e; (first | rw [put_some] at e | rw [put_none] at e); subst e) | (intro _ _ e e'; (first | rw [put_some] at e | rw [put_none] at e); subst e; subst e'))))
        refine awp_loop_k _ (LeB [0, 1] (by refine ⟨?_, ?_, ?_⟩ <;> simp only [leFr, leFb, leHp, V.ren, V.renL, V.bd, V.bdL, allL, lt, Go.Ab.get, hget, List.map_cons, List.map_nil, List.length_cons, List.length_nil, List.length_append, List.getElem?_cons_zero, List.getElem?_cons_succ, List.getElem?_nil, Option.join_some, Option.join_none, List.getD_cons_zero, List.getD_cons_succ, List.getD_nil, Nat.reduceAdd, Nat.reduceLT, Nat.reduceEqDiff, Nat.zero_add, reduceIte, if_true, if_false, and_true, true_and, renL_vcells, allL_vcells, renL_pv, leBlk_some, eq_self, true_or, or_true, reduceCtorEq, false_or, c0])) (main hb hK d.vs [] rfl rfl)
      | false =>
        cases h4 : decide ((d.vs.length : Int) > 0) with
        | true =>
          simp only [h1, h2, h3, h4, bne, Bool.not_false, Bool.false_eq_true, if_false, if_true] at hb
          subst hb
          clear main
          (repeat' (first | ((with_reducible first | refine aops_cons' fun C hC => ?_ | refine aopsD_cons' fun C hC => ?_ | intro C hC); simp only [go_sem, h1, h2, h3, h4, bne, encVr_len]; ((with_reducible first | refine finA hC ?_ | refine finD hC ?_); clear hC C)) | (with_reducible first | refine awp_seq_k fun K hK => ?_ | refine awp_reg_k fun K hK => ?_ | refine awp_dreg_k fun K hK => ?_ | (refine aops_nil ?_; refine hK _ _ ?_; try clear hK K) | (refine aopsD_nil ?_; refine hK _ _ _ ?_ ?_; (focus kernel_rfl); try clear hK K) | (refine thn_normal ?_; refine hK _ _ ?_; try clear hK K) | refine catch_normal ?_ | refine awp_skip_k ?_ | refine awp_ret_k ?_ | refine awp_exit_k ?_ | refine awp_block_k ?_ | (refine thn_exit ?_; try clear hK K) | (refine thn_ret ?_; try clear hK K) | refine catch_ret ?_ | refine catch_exit ?_ | (refine catch_other ?_ ?_; focus decide)) | ((with_reducible first | apply aops_guard' | apply aopsD_guard' | apply awp_cond_g); focus (simp only [go_sem, h1, h2, h3, h4, bne, encVr_len]; exact rfl)) | (with_reducible first | refine gk_tt ?_ | refine gk_ff ?_ | refine ck_t ?_ | refine ck_f ?_) | ((with_reducible first | refine gk_tf ?_ | refine gk_ft ?_ | refine gk_u ?_ | refine gk_u' ?_); first | (intro _ e; (first | rw [put_some] at e | rw [put_none] at e); subst e) | (intro _ _ e e'; (first | rw [put_some] at e | rw [put_none] at e); subst e; subst e'))))
          (refine retP_ret (List.range 40) rfl ?_; (first | exact vwA | exact vwT | exact vwW))
        | false =>
          simp only [h1, h2, h3, h4, bne, Bool.not_false, Bool.false_eq_true, if_false, if_true] at hb
          (repeat' (first | ((with_reducible first | refine aops_cons' fun C hC => ?_ | refine aopsD_cons' fun C hC => ?_ | intro C hC); simp only [go_sem, h1, h2, h3, h4, bne, encVr_len]; ((with_reducible first | refine finA hC ?_ | refine finD hC ?_); clear hC C)) | (with_reducible first | refine awp_seq_k fun K hK => ?_ | refine awp_reg_k fun K hK => ?_ | refine awp_dreg_k fun K hK => ?_ | (refine aops_nil ?_; refine hK _ _ ?_; try clear hK K) | (refine aopsD_nil ?_; refine hK _ _ _ ?_ ?_; (focus kernel_rfl); try clear hK K) | (refine thn_normal ?_; refine hK _ _ ?_; try clear hK K) | refine catch_normal ?_ | refine awp_skip_k ?_ | refine awp_ret_k ?_ | refine awp_exit_k ?_ | refine awp_block_k ?_ | (refine thn_exit ?_; try clear hK K) | (refine thn_ret ?_; try clear hK K) | refine catch_ret ?_ | refine catch_exit ?_ | (refine catch_other ?_ ?_; focus decide)) | ((with_reducible first | apply aops_guard' | apply aopsD_guard' | apply awp_cond_g); focus (simp only [go_sem, h1, h2, h3, h4, bne, encVr_len]; exact rfl)) | (with_reducible first | refine gk_tt ?_ | refine gk_ff ?_ | refine ck_t ?_ | refine ck_f ?_) | ((with_reducible first | refine gk_tf ?_ | refine gk_ft ?_ | refine gk_u ?_ | refine gk_u' ?_); first | (intro _ e; (first | rw [put_some] at e | rw [put_none] at e); subst e) | (intro _ _ e e'; (first | rw [put_some] at e | rw [put_none] at e); subst e; subst e'))))
          refine awp_loop_k _ (LeB [0, 1] (by refine ⟨?_, ?_, ?_⟩ <;> simp only [leFr, leFb, leHp, V.ren, V.renL, V.bd, V.bdL, allL, lt, Go.Ab.get, hget, List.map_cons, List.map_nil, List.length_cons, List.length_nil, List.length_append, List.getElem?_cons_zero, List.getElem?_cons_succ, List.getElem?_nil, Option.join_some, Option.join_none, List.getD_cons_zero, List.getD_cons_succ, List.getD_nil, Nat.reduceAdd, Nat.reduceLT, Nat.reduceEqDiff, Nat.zero_add, reduceIte, if_true, if_false, and_true, true_and, renL_vcells, allL_vcells, renL_pv, leBlk_some, eq_self, true_or, or_true, reduceCtorEq, false_or, c0])) (main hb hK d.vs [] rfl rfl)
theorem nvvD_ok (ds : List Dm) (d : Dm) : PCall Try.prog 102 ([d.enc] ++ [.rptr [.list 2 (encDm ds)]]) (bb (!vvD ds d)) := by
  have hc := vvD_ok ds d
  rw [dm_enc] at hc
  refine PCall.intro (ps := [bb (!vvD ds d)]) fn102 (by simp) ?_
  unfold ac102
  simp only [argFr, List.cons_append, List.nil_append, dm_enc]
  (repeat' (first | ((first | (with_reducible refine aops_call fun C hC => ?_) | (with_reducible refine aopsD_call fun C hC => ?_) | ((with_reducible intro C hC); (with_reducible refine ax_call_mp ?_))); (first | (simp only [go_sem, pcells_dm]; (first | ((with_reducible apply ACall.pure0 [] (hc)); (focus ((first | exact vwA | exact vwT | exact vwW))))))); (simp only [PV.scal, PV.scalL, if_true, Bool.and_true, Bool.and_false, Bool.false_and, Bool.true_and, frz, List.map_nil, Bool.false_eq_true, if_false, ite_self, pcells_dm]); ((with_reducible first | refine finA hC ?_ | refine finD hC ?_); clear hC C)) | ((with_reducible first | refine aops_cons' fun C hC => ?_ | refine aopsD_cons' fun C hC => ?_ | intro C hC); simp only [go_sem, pcells_dm]; ((with_reducible first | refine finA hC ?_ | refine finD hC ?_); clear hC C)) | (with_reducible first | refine awp_seq_k fun K hK => ?_ | refine awp_reg_k fun K hK => ?_ | refine awp_dreg_k fun K hK => ?_ | (refine aops_nil ?_; refine hK _ _ ?_; try clear hK K) | (refine aopsD_nil ?_; refine hK _ _ _ ?_ ?_; (focus kernel_rfl); try clear hK K) | (refine thn_normal ?_; refine hK _ _ ?_; try clear hK K) | refine catch_normal ?_ | refine awp_skip_k ?_ | refine awp_ret_k ?_ | refine awp_exit_k ?_ | refine awp_block_k ?_ | (refine thn_exit ?_; try clear hK K) | (refine thn_ret ?_; try clear hK K) | refine catch_ret ?_ | refine catch_exit ?_ | (refine catch_other ?_ ?_; focus decide)) | ((with_reducible first | apply aops_guard' | apply aopsD_guard' | apply awp_cond_g); focus (simp only [go_sem, pcells_dm]; exact rfl)) | (with_reducible first | refine gk_tt ?_ | refine gk_ff ?_ | refine ck_t ?_ | refine ck_f ?_) | ((with_reducible first | refine gk_tf ?_ | refine gk_ft ?_ | refine gk_u ?_ | refine gk_u' ?_); first | (intro _ e; (first | rw [put_some] at e | rw [put_none] at e); subst e) | (intro _ _ e e'; (first | rw [put_some] at e | rw [put_none] at e); subst e; subst e'))))
  (refine retP_ret (List.range 40) rfl ?_; (first | exact vwA | exact vwT | exact vwW))
/-! ### Validate -/
def tooD : List Dm → Bool → Bool
  | [], b => b
  | d :: ds, b => tooD ds (if (if b then true else decide ((d.vs.length : Int) > 8)) then true else d.vs.any (fun v => decide ((v.fs.length : Int) > 4)))
def valRows (ds : List Dm) (cols : List Int) : List (List Ty) → Int
  | [] => 0
  | row :: rows => if (if !(row.length == cols.length) then true else decide ((pctL row 1 : Int) > 21)) then 3 else if confL ds row cols then valRows ds cols rows else 3
def valR (ds : List Dm) (cols : List Int) (rows : List (List Ty)) : Int :=
  if tooD ds (if (if decide ((ds.length : Int) > 20) then true else decide ((cols.length : Int) > 6)) then true else decide ((rows.length : Int) > 12)) then 2
  else if (if ds.any (fun d => !vvD ds d) then true else cols.any (fun c => !vdom ds c)) then 3
  else valRows ds cols rows
theorem vvL_spec {ds : List Dm} : ∀ {rest pre : List Vr}, vvL ds pre rest = true → (∀ v ∈ rest, ∀ f ∈ v.fs, cOk ds f) ∧ (∀ v ∈ rest, ∀ u ∈ pre, u.id ≠ v.id) ∧ ∀ v ∈ rest, vfind v.id rest = some v
  | [], pre, _ => by simp
  | v :: rest, pre, h => by
    simp only [vvL] at h
    by_cases h1 : pre.any (fun u => u.id == v.id) = true
    · simp [h1] at h
    by_cases h2 : v.fs.any (fun f => !vdom ds f) = true
    · simp [h1, h2] at h
    rw [if_neg h1, if_neg h2] at h
    obtain ⟨i1, i2, i3⟩ := vvL_spec h
    have e1 : ∀ u ∈ pre, u.id ≠ v.id := by
      intro u hu he
      exact h1 (List.any_eq_true.2 ⟨u, hu, by simpa using he⟩)
    refine ⟨fun w hw f hf => ?_, fun w hw u hu => ?_, fun w hw => ?_⟩
    · rcases List.mem_cons.1 hw with rfl | hw
      · rw [← vdom_iff]
        cases hv : vdom ds f with
        | true => rfl
        | false => exact absurd (List.any_eq_true.2 ⟨f, hf, by simp [hv]⟩) h2
      · exact i1 w hw f hf
    · rcases List.mem_cons.1 hw with rfl | hw
      · exact e1 u hu
      · exact i2 w hw u (by simp [hu])
    · rcases List.mem_cons.1 hw with rfl | hw
      · simp [vfind]
      · have := i2 w hw v (by simp)
        simp only [vfind]
        rw [if_neg (by simpa using this)]
        exact i3 w hw
theorem tooD_true : ∀ ds : List Dm, tooD ds true = true
  | [] => rfl
  | d :: ds => by simp only [tooD, if_true]; exact tooD_true ds
theorem tooD_spec : ∀ {ds : List Dm} {b : Bool}, tooD ds b = false → b = false ∧ ∀ d ∈ ds, d.vs.length ≤ 8 ∧ ∀ v ∈ d.vs, v.fs.length ≤ 4
  | [], b, h => ⟨h, by simp⟩
  | d :: ds, b, h => by
    simp only [tooD] at h
    cases b with
    | true => simp only [if_true] at h; rw [tooD_true] at h; cases h
    | false =>
      simp only [Bool.false_eq_true, if_false] at h
      obtain ⟨h1, h2⟩ := tooD_spec h
      refine ⟨rfl, fun e he => ?_⟩
      rcases List.mem_cons.1 he with rfl | he
      · by_cases h8 : decide ((e.vs.length : Int) > 8) = true
        · rw [if_pos h8] at h1; cases h1
        · rw [if_neg h8] at h1
          refine ⟨by simp at h8; omega, fun v hv => ?_⟩
          by_cases h4 : v.fs.length ≤ 4
          · exact h4
          · have : e.vs.any (fun v => decide ((v.fs.length : Int) > 4)) = true := List.any_eq_true.2 ⟨v, hv, by simp; omega⟩
            rw [h1] at this; cases this
      · exact h2 e he
theorem val_dom {ds : List Dm} (h : ds.any (fun d => !vvD ds d) = false) : FsOk ds ∧ (∀ d ∈ ds, d.k = 0 ∨ d.k = 1 ∨ d.k = 2 ∨ d.k = 3) ∧ (∀ d ∈ ds, d.k ≠ 1 → d.vs = []) ∧ ∀ d ∈ ds, ∀ v ∈ d.vs, vfind v.id d.vs = some v := by
  have hv : ∀ d ∈ ds, badD d = false ∧ vvL ds [] d.vs = true := by
    intro d hd
    have : vvD ds d = true := by
      cases e : vvD ds d with
      | true => rfl
      | false =>
        have : ds.any (fun d => !vvD ds d) = true := List.any_eq_true.2 ⟨d, hd, by simp [e]⟩
        rw [h] at this; cases this
    unfold vvD at this
    cases e : badD d with
    | true => rw [e] at this; simp at this
    | false => rw [e] at this; exact ⟨rfl, by simpa using this⟩
  refine ⟨fun d hd => (vvL_spec (hv d hd).2).1, fun d hd => ?_, fun d hd hk => ?_, fun d hd => (vvL_spec (hv d hd).2).2.2⟩
  · have := (hv d hd).1
    unfold badD at this
    by_cases h1 : d.k < 0
    · simp [h1] at this
    · by_cases h2 : d.k > 3
      · simp [h1, h2] at this
      · omega
  · have := (hv d hd).1
    unfold badD at this
    by_cases h1 : d.k < 0
    · simp [h1] at this
    · by_cases h2 : d.k > 3
      · simp [h1, h2] at this
      · simp [h1, h2, hk] at this
        exact this
end Go.Proofs.Ytbdoblgofddhdaa
