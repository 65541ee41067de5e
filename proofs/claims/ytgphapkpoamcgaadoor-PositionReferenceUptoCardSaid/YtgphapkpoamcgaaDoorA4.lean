/- A4: joined from O2. -/
import Derived.Test.YtgphapkpoamcgaaDoorFnP
import Derived.Test.YtgphapkpoamcgaaDoorA3
import Derived.Test.YtgphapkpoamcgaaDoorS1
/- The reference's LineStarts; LastIndexByte; the shelf's contracts; widths. -/
set_option maxRecDepth 10000
set_option linter.unusedSimpArgs false
set_option linter.unusedVariables false
namespace Go.Proofs.YtgphapkpoamcgaaDoor
open Go Go.Ab Go.RowKit
def encU (l : List UInt8) : List PV := l.map fun (b : UInt8) => .lit (.int .u8 (b.toNat : Int))
theorem encU_len (l : List UInt8) : (encU l).length = l.length := by simp [encU]
theorem encU_at (ts us : List UInt8) (t : UInt8) : (encU (ts ++ t :: us))[ts.length]? = some (u8 t) := by simp [encU]
theorem encU_eq (l : List UInt8) : List.map (fun (b : UInt8) => PV.lit (.int .u8 (b.toNat : Int))) l = encU l := rfl
theorem wrapR {x : Int} (h1 : -9223372036854775808 ≤ x) (h2 : x ≤ 9223372036854775807) : IntKind.i64.wrap x = x :=
  IntWalk.i64_in _ (by omega)
set_option maxHeartbeats 4000000 in
theorem rls_ok (l : List UInt8) (hl : l.length ≤ 1048576) : PCall Tryd.prog 8 [sb l] (.list 1 (encN (starts l))) := by
  generalize hR : starts l = R
  refine PCall.intro (ps := [.list 1 (encN R)]) fn8 (by simp) ?_
  unfold ac8
  simp only [argFr]
  have hb0 : l.length ≤ big := by unfold big; omega
  (repeat' (first | ((with_reducible first | refine aops_cons' fun C hC => ?_ | refine aopsD_cons' fun C hC => ?_ | intro C hC); simp only [go_sem, sb_size, encU_eq, encU_len, hb0]; ((with_reducible first | refine finA hC ?_ | refine finD hC ?_); clear hC C)) | (with_reducible first | refine awp_seq_k fun K hK => ?_ | refine awp_reg_k fun K hK => ?_ | refine awp_dreg_k fun K hK => ?_ | (refine aops_nil ?_; refine hK _ _ ?_; try clear hK K) | (refine aopsD_nil ?_; refine hK _ _ _ ?_ ?_; (focus kernel_rfl); try clear hK K) | (refine thn_normal ?_; refine hK _ _ ?_; try clear hK K) | refine catch_normal ?_ | refine awp_skip_k ?_ | refine awp_ret_k ?_ | refine awp_exit_k ?_ | refine awp_block_k ?_ | (refine thn_exit ?_; try clear hK K) | (refine thn_ret ?_; try clear hK K) | refine catch_ret ?_ | refine catch_exit ?_ | (refine catch_other ?_ ?_; focus decide)) | ((with_reducible first | apply aops_guard' | apply aopsD_guard' | apply awp_cond_g); focus (simp only [go_sem, sb_size, encU_eq, encU_len, hb0]; exact rfl)) | (with_reducible first | refine gk_tt ?_ | refine gk_ff ?_ | refine ck_t ?_ | refine ck_f ?_) | ((with_reducible first | refine gk_tf ?_ | refine gk_ft ?_ | refine gk_u ?_ | refine gk_u' ?_); first | (intro _ e; (first | rw [put_some] at e | rw [put_none] at e); subst e) | (intro _ _ e e'; (first | rw [put_some] at e | rw [put_none] at e); subst e; subst e'))))
  have rows : ∀ (rest pre : List UInt8) (acc : List Nat) (fl : Bool), pre ++ rest = l → acc ++ lsts rest pre.length = R → acc.length ≤ pre.length + 1 → loopN (awp Tryd.prog ac8_l0) (catch_ 0 (thn K (retP [RV.tmp 2] [.list 1 (encN R)]))) (rest.length + 1)
     [(10, .pv (ii pre.length)), (9, .pv (ii l.length)), (8, .pv (.list 1 (encU l))), (3, .row 0 acc.length fl)] [some ⟨false, 3, 1, acc.map NC, none⟩] := by
    intro rest
    induction rest with
    | nil =>
      intro pre acc fl hpre hr hn
      have hpre : pre = l := by simpa using hpre
      subst hpre
      rw [lsts, List.append_nil] at hr; subst hr
      refine loopN_k fun K1 hK1 => ?_
      unfold ac8_l0
      (repeat' (first | ((with_reducible first | refine aops_cons' fun C hC => ?_ | refine aopsD_cons' fun C hC => ?_ | intro C hC); simp only [go_sem, lt_end]; ((with_reducible first | refine finA hC ?_ | refine finD hC ?_); clear hC C)) | (with_reducible first | refine awp_seq_k fun K hK => ?_ | refine awp_reg_k fun K hK => ?_ | refine awp_dreg_k fun K hK => ?_ | (refine aops_nil ?_; refine hK _ _ ?_; try clear hK K) | (refine aopsD_nil ?_; refine hK _ _ _ ?_ ?_; (focus kernel_rfl); try clear hK K) | (refine thn_normal ?_; refine hK _ _ ?_; try clear hK K) | refine catch_normal ?_ | refine awp_skip_k ?_ | refine awp_ret_k ?_ | refine awp_exit_k ?_ | refine awp_block_k ?_ | (refine thn_exit ?_; try clear hK K) | (refine thn_ret ?_; try clear hK K) | refine catch_ret ?_ | refine catch_exit ?_ | (refine catch_other ?_ ?_; focus decide)) | ((with_reducible first | apply aops_guard' | apply aopsD_guard' | apply awp_cond_g); focus (simp only [go_sem, lt_end]; exact rfl)) | (with_reducible first | refine gk_tt ?_ | refine gk_ff ?_ | refine ck_t ?_ | refine ck_f ?_) | ((with_reducible first | refine gk_tf ?_ | refine gk_ft ?_ | refine gk_u ?_ | refine gk_u' ?_); first | (intro _ e; (first | rw [put_some] at e | rw [put_none] at e); subst e) | (intro _ _ e e'; (first | rw [put_some] at e | rw [put_none] at e); subst e; subst e'))))
      refine retP_ret (List.range 40) rfl ?_
      exact .cons _ _ _ _ (row_N (by decide) rfl rfl) .nil
    | cons c rest ih =>
      intro pre acc fl hpre hr hn
      have hlt : decide ((pre.length : Int) < (l.length : Int)) = true := by rw [← hpre]; exact lt_app _ _ _
      have hk1 : pre.length < l.length := by rw [← hpre]; simp
      have hat : (encU l)[pre.length]? = some (u8 c) := by rw [← hpre]; exact encU_at _ _ _
      have hw := wrapS (n := pre.length) (by omega)
      have hub : acc.length + 1 ≤ big := by unfold big; omega
      refine loopN_k fun K1 hK1 => ?_
      unfold ac8_l0
      simp only [lsts] at hr
      cases hc : ((c.toNat : Int) == 10) with
      | false =>
        rw [hc, if_neg (by decide)] at hr
        (repeat' (first | ((with_reducible first | refine aops_cons' fun C hC => ?_ | refine aopsD_cons' fun C hC => ?_ | intro C hC); simp only [go_sem, hlt, hat, pc_lit, hc]; ((with_reducible first | refine finA hC ?_ | refine finD hC ?_); clear hC C)) | (with_reducible first | refine awp_seq_k fun K hK => ?_ | refine awp_reg_k fun K hK => ?_ | refine awp_dreg_k fun K hK => ?_ | (refine aops_nil ?_; refine hK _ _ ?_; try clear hK K) | (refine aopsD_nil ?_; refine hK _ _ _ ?_ ?_; (focus kernel_rfl); try clear hK K) | (refine thn_normal ?_; refine hK _ _ ?_; try clear hK K) | refine catch_normal ?_ | refine awp_skip_k ?_ | refine awp_ret_k ?_ | refine awp_exit_k ?_ | refine awp_block_k ?_ | (refine thn_exit ?_; try clear hK K) | (refine thn_ret ?_; try clear hK K) | refine catch_ret ?_ | refine catch_exit ?_ | (refine catch_other ?_ ?_; focus decide)) | ((with_reducible first | apply aops_guard' | apply aopsD_guard' | apply awp_cond_g); focus (simp only [go_sem, hlt, hat, pc_lit, hc]; exact rfl)) | (with_reducible first | refine gk_tt ?_ | refine gk_ff ?_ | refine ck_t ?_ | refine ck_f ?_) | ((with_reducible first | refine gk_tf ?_ | refine gk_ft ?_ | refine gk_u ?_ | refine gk_u' ?_); first | (intro _ e; (first | rw [put_some] at e | rw [put_none] at e); subst e) | (intro _ _ e e'; (first | rw [put_some] at e | rw [put_none] at e); subst e; subst e'))))
        refine thn_normal ?_
        refine hK1 _ _ _ _ _ (LeB [0] (by refine ⟨?_, ?_, ?_⟩ <;> simp only [leFr, leFb, leHp, V.ren, V.renL, V.bd, V.bdL, allL, lt, Go.Ab.get, hget, List.map_cons, List.map_nil, List.length_cons, List.length_nil, List.length_append, List.getElem?_cons_zero, List.getElem?_cons_succ, List.getElem?_nil, Option.join_some, Option.join_none, List.getD_cons_zero, List.getD_cons_succ, List.getD_nil, Nat.reduceAdd, Nat.reduceLT, Nat.reduceEqDiff, Nat.zero_add, reduceIte, if_true, if_false, and_true, true_and, renL_vcells, allL_vcells, renL_pv, leBlk_some, eq_self, true_or, or_true, reduceCtorEq, false_or, hw, List.length_append, renL_N, allL_N, allL])) (ih (pre ++ [c]) acc fl (by simp [hpre]) (by simpa using hr) (by simp; omega))
      | true =>
        rw [hc, if_pos rfl] at hr
        (repeat' (first | ((with_reducible first | refine aops_cons' fun C hC => ?_ | refine aopsD_cons' fun C hC => ?_ | intro C hC); simp only [go_sem, hlt, hat, pc_lit, hc, hw, hub, List.length_map]; ((with_reducible first | refine finA hC ?_ | refine finD hC ?_); clear hC C)) | (with_reducible first | refine awp_seq_k fun K hK => ?_ | refine awp_reg_k fun K hK => ?_ | refine awp_dreg_k fun K hK => ?_ | (refine aops_nil ?_; refine hK _ _ ?_; try clear hK K) | (refine aopsD_nil ?_; refine hK _ _ _ ?_ ?_; (focus kernel_rfl); try clear hK K) | (refine thn_normal ?_; refine hK _ _ ?_; try clear hK K) | refine catch_normal ?_ | refine awp_skip_k ?_ | refine awp_ret_k ?_ | refine awp_exit_k ?_ | refine awp_block_k ?_ | (refine thn_exit ?_; try clear hK K) | (refine thn_ret ?_; try clear hK K) | refine catch_ret ?_ | refine catch_exit ?_ | (refine catch_other ?_ ?_; focus decide)) | ((with_reducible first | apply aops_guard' | apply aopsD_guard' | apply awp_cond_g); focus (simp only [go_sem, hlt, hat, pc_lit, hc, hw, hub, List.length_map]; exact rfl)) | (with_reducible first | refine gk_tt ?_ | refine gk_ff ?_ | refine ck_t ?_ | refine ck_f ?_) | ((with_reducible first | refine gk_tf ?_ | refine gk_ft ?_ | refine gk_u ?_ | refine gk_u' ?_); first | (intro _ e; (first | rw [put_some] at e | rw [put_none] at e); subst e) | (intro _ _ e e'; (first | rw [put_some] at e | rw [put_none] at e); subst e; subst e'))))
        refine thn_normal ?_
        refine hK1 _ _ _ _ _ (LeB [2] (by refine ⟨?_, ?_, ?_⟩ <;> simp only [leFr, leFb, leHp, V.ren, V.renL, V.bd, V.bdL, allL, lt, Go.Ab.get, hget, List.map_cons, List.map_nil, List.length_cons, List.length_nil, List.length_append, List.getElem?_cons_zero, List.getElem?_cons_succ, List.getElem?_nil, Option.join_some, Option.join_none, List.getD_cons_zero, List.getD_cons_succ, List.getD_nil, Nat.reduceAdd, Nat.reduceLT, Nat.reduceEqDiff, Nat.zero_add, reduceIte, if_true, if_false, and_true, true_and, renL_vcells, allL_vcells, renL_pv, leBlk_some, eq_self, true_or, or_true, reduceCtorEq, false_or, hw, List.length_append, List.map_append, List.map_cons, List.map_nil, renL_N, allL_N, allL, allL_app, NC, List.length_cons, List.length_nil, Nat.zero_add])) (ih (pre ++ [c]) (acc ++ [pre.length + 1]) false (by simp [hpre]) (by simpa using hr) (by simp; omega))
  refine awp_loop_k _ (LeB [0] (by refine ⟨?_, ?_, ?_⟩ <;> simp only [leFr, leFb, leHp, V.ren, V.renL, V.bd, V.bdL, allL, lt, Go.Ab.get, hget, List.map_cons, List.map_nil, List.length_cons, List.length_nil, List.length_append, List.getElem?_cons_zero, List.getElem?_cons_succ, List.getElem?_nil, Option.join_some, Option.join_none, List.getD_cons_zero, List.getD_cons_succ, List.getD_nil, Nat.reduceAdd, Nat.reduceLT, Nat.reduceEqDiff, Nat.zero_add, reduceIte, if_true, if_false, and_true, true_and, renL_vcells, allL_vcells, renL_pv, leBlk_some, eq_self, true_or, or_true, reduceCtorEq, false_or, c0, List.length_nil, allL, NC, List.map_cons, List.map_nil, List.length_cons, encU_eq, encU_len])) (rows l [] [0] true rfl hR (by simp))
/-! ### LastIndexByte -/
theorem libS_ok (l : List UInt8) (hl : l.length ≤ 1048576) : PCall Tryd.prog 26 [sb l, .lit (.int .u8 10)] (ii (lastTo l l.length)) := by
  generalize hR : lastTo l l.length = R
  refine PCall.intro (ps := [ii R]) fn26 (by simp) ?_
  unfold ac26
  simp only [argFr]
  have hwr : ∀ n : Nat, n ≤ 1048576 → IntKind.i64.wrap ((n : Int) - 1) = (n : Int) - 1 := fun n h => wrapR (by omega) (by omega)
  have hw0 := hwr l.length hl
  (repeat' (first | ((with_reducible first | refine aops_cons' fun C hC => ?_ | refine aopsD_cons' fun C hC => ?_ | intro C hC); simp only [go_sem, sb_size, hw0]; ((with_reducible first | refine finA hC ?_ | refine finD hC ?_); clear hC C)) | (with_reducible first | refine awp_seq_k fun K hK => ?_ | refine awp_reg_k fun K hK => ?_ | refine awp_dreg_k fun K hK => ?_ | (refine aops_nil ?_; refine hK _ _ ?_; try clear hK K) | (refine aopsD_nil ?_; refine hK _ _ _ ?_ ?_; (focus kernel_rfl); try clear hK K) | (refine thn_normal ?_; refine hK _ _ ?_; try clear hK K) | refine catch_normal ?_ | refine awp_skip_k ?_ | refine awp_ret_k ?_ | refine awp_exit_k ?_ | refine awp_block_k ?_ | (refine thn_exit ?_; try clear hK K) | (refine thn_ret ?_; try clear hK K) | refine catch_ret ?_ | refine catch_exit ?_ | (refine catch_other ?_ ?_; focus decide)) | ((with_reducible first | apply aops_guard' | apply aopsD_guard' | apply awp_cond_g); focus (simp only [go_sem, sb_size, hw0]; exact rfl)) | (with_reducible first | refine gk_tt ?_ | refine gk_ff ?_ | refine ck_t ?_ | refine ck_f ?_) | ((with_reducible first | refine gk_tf ?_ | refine gk_ft ?_ | refine gk_u ?_ | refine gk_u' ?_); first | (intro _ e; (first | rw [put_some] at e | rw [put_none] at e); subst e) | (intro _ _ e e'; (first | rw [put_some] at e | rw [put_none] at e); subst e; subst e'))))
  have rows : ∀ (n : Nat), n ≤ l.length → lastTo l n = R → loopN (awp Tryd.prog ac26_l0) (catch_ 0 (thn K (retP [RV.tmp 4] [ii R]))) (n + 1)
     [(5, .pv (ii ((n : Int) - 1))), (1, .pv (.lit (.int .u8 10))), (0, .pv (sb l))] [] := by
    intro n
    induction n with
    | zero =>
      intro _ hr
      rw [lastTo] at hr; subst hr
      refine loopN_k fun K1 hK1 => ?_
      have hlt : decide (((0 : Nat) : Int) - 1 ≥ 0) = false := by decide
      unfold ac26_l0
      (repeat' (first | ((with_reducible first | refine aops_cons' fun C hC => ?_ | refine aopsD_cons' fun C hC => ?_ | intro C hC); simp only [go_sem, hlt]; ((with_reducible first | refine finA hC ?_ | refine finD hC ?_); clear hC C)) | (with_reducible first | refine awp_seq_k fun K hK => ?_ | refine awp_reg_k fun K hK => ?_ | refine awp_dreg_k fun K hK => ?_ | (refine aops_nil ?_; refine hK _ _ ?_; try clear hK K) | (refine aopsD_nil ?_; refine hK _ _ _ ?_ ?_; (focus kernel_rfl); try clear hK K) | (refine thn_normal ?_; refine hK _ _ ?_; try clear hK K) | refine catch_normal ?_ | refine awp_skip_k ?_ | refine awp_ret_k ?_ | refine awp_exit_k ?_ | refine awp_block_k ?_ | (refine thn_exit ?_; try clear hK K) | (refine thn_ret ?_; try clear hK K) | refine catch_ret ?_ | refine catch_exit ?_ | (refine catch_other ?_ ?_; focus decide)) | ((with_reducible first | apply aops_guard' | apply aopsD_guard' | apply awp_cond_g); focus (simp only [go_sem, hlt]; exact rfl)) | (with_reducible first | refine gk_tt ?_ | refine gk_ff ?_ | refine ck_t ?_ | refine ck_f ?_) | ((with_reducible first | refine gk_tf ?_ | refine gk_ft ?_ | refine gk_u ?_ | refine gk_u' ?_); first | (intro _ e; (first | rw [put_some] at e | rw [put_none] at e); subst e) | (intro _ _ e e'; (first | rw [put_some] at e | rw [put_none] at e); subst e; subst e'))))
      (refine retP_ret (List.range 40) rfl ?_; exact vwA)
    | succ n ih =>
      intro hn hr
      have e1 : ((n + 1 : Nat) : Int) - 1 = (n : Int) := by omega
      have hlt : decide ((n : Int) ≥ 0) = true := decide_eq_true (by omega)
      have hk1 : n < l.length := by omega
      have hw := hwr n (by omega)
      rw [e1]
      refine loopN_k fun K1 hK1 => ?_
      unfold ac26_l0
      simp only [lastTo] at hr
      cases hc : (((l.getD n 0).toNat : Int) == 10) with
      | true =>
        rw [hc, if_pos rfl] at hr
        subst hr
        (repeat' (first | ((with_reducible first | refine aops_cons' fun C hC => ?_ | refine aopsD_cons' fun C hC => ?_ | intro C hC); simp only [go_sem, hlt, sb_at, hk1, hc]; ((with_reducible first | refine finA hC ?_ | refine finD hC ?_); clear hC C)) | (with_reducible first | refine awp_seq_k fun K hK => ?_ | refine awp_reg_k fun K hK => ?_ | refine awp_dreg_k fun K hK => ?_ | (refine aops_nil ?_; refine hK _ _ ?_; try clear hK K) | (refine aopsD_nil ?_; refine hK _ _ _ ?_ ?_; (focus kernel_rfl); try clear hK K) | (refine thn_normal ?_; refine hK _ _ ?_; try clear hK K) | refine catch_normal ?_ | refine awp_skip_k ?_ | refine awp_ret_k ?_ | refine awp_exit_k ?_ | refine awp_block_k ?_ | (refine thn_exit ?_; try clear hK K) | (refine thn_ret ?_; try clear hK K) | refine catch_ret ?_ | refine catch_exit ?_ | (refine catch_other ?_ ?_; focus decide)) | ((with_reducible first | apply aops_guard' | apply aopsD_guard' | apply awp_cond_g); focus (simp only [go_sem, hlt, sb_at, hk1, hc]; exact rfl)) | (with_reducible first | refine gk_tt ?_ | refine gk_ff ?_ | refine ck_t ?_ | refine ck_f ?_) | ((with_reducible first | refine gk_tf ?_ | refine gk_ft ?_ | refine gk_u ?_ | refine gk_u' ?_); first | (intro _ e; (first | rw [put_some] at e | rw [put_none] at e); subst e) | (intro _ _ e e'; (first | rw [put_some] at e | rw [put_none] at e); subst e; subst e'))))
        (refine retP_ret (List.range 40) rfl ?_; exact vwA)
      | false =>
        rw [hc, if_neg (by decide)] at hr
        (repeat' (first | ((with_reducible first | refine aops_cons' fun C hC => ?_ | refine aopsD_cons' fun C hC => ?_ | intro C hC); simp only [go_sem, hlt, sb_at, hk1, hc, hw]; ((with_reducible first | refine finA hC ?_ | refine finD hC ?_); clear hC C)) | (with_reducible first | refine awp_seq_k fun K hK => ?_ | refine awp_reg_k fun K hK => ?_ | refine awp_dreg_k fun K hK => ?_ | (refine aops_nil ?_; refine hK _ _ ?_; try clear hK K) | (refine aopsD_nil ?_; refine hK _ _ _ ?_ ?_; (focus kernel_rfl); try clear hK K) | (refine thn_normal ?_; refine hK _ _ ?_; try clear hK K) | refine catch_normal ?_ | refine awp_skip_k ?_ | refine awp_ret_k ?_ | refine awp_exit_k ?_ | refine awp_block_k ?_ | (refine thn_exit ?_; try clear hK K) | (refine thn_ret ?_; try clear hK K) | refine catch_ret ?_ | refine catch_exit ?_ | (refine catch_other ?_ ?_; focus decide)) | ((with_reducible first | apply aops_guard' | apply aopsD_guard' | apply awp_cond_g); focus (simp only [go_sem, hlt, sb_at, hk1, hc, hw]; exact rfl)) | (with_reducible first | refine gk_tt ?_ | refine gk_ff ?_ | refine ck_t ?_ | refine ck_f ?_) | ((with_reducible first | refine gk_tf ?_ | refine gk_ft ?_ | refine gk_u ?_ | refine gk_u' ?_); first | (intro _ e; (first | rw [put_some] at e | rw [put_none] at e); subst e) | (intro _ _ e e'; (first | rw [put_some] at e | rw [put_none] at e); subst e; subst e'))))
        refine thn_normal ?_
        refine hK1 _ _ _ _ _ (LeB [] (by refine ⟨?_, ?_, ?_⟩ <;> simp only [leFr, leFb, leHp, V.ren, V.renL, V.bd, V.bdL, allL, lt, Go.Ab.get, hget, List.map_cons, List.map_nil, List.length_cons, List.length_nil, List.length_append, List.getElem?_cons_zero, List.getElem?_cons_succ, List.getElem?_nil, Option.join_some, Option.join_none, List.getD_cons_zero, List.getD_cons_succ, List.getD_nil, Nat.reduceAdd, Nat.reduceLT, Nat.reduceEqDiff, Nat.zero_add, reduceIte, if_true, if_false, and_true, true_and, renL_vcells, allL_vcells, renL_pv, leBlk_some, eq_self, true_or, or_true, reduceCtorEq, false_or, hw])) (ih (by omega) hr)
  refine awp_loop_k _ (LeB [] (by refine ⟨?_, ?_, ?_⟩ <;> simp only [leFr, leFb, leHp, V.ren, V.renL, V.bd, V.bdL, allL, lt, Go.Ab.get, hget, List.map_cons, List.map_nil, List.length_cons, List.length_nil, List.length_append, List.getElem?_cons_zero, List.getElem?_cons_succ, List.getElem?_nil, Option.join_some, Option.join_none, List.getD_cons_zero, List.getD_cons_succ, List.getD_nil, Nat.reduceAdd, Nat.reduceLT, Nat.reduceEqDiff, Nat.zero_add, reduceIte, if_true, if_false, and_true, true_and, renL_vcells, allL_vcells, renL_pv, leBlk_some, eq_self, true_or, or_true, reduceCtorEq, false_or, c0])) (rows l.length (Nat.le_refl _) hR)
theorem lib_ok (l : List UInt8) (hl : l.length ≤ 1048576) : PCall Tryd.prog 21 [sb l, .lit (.int .u8 10)] (ii (lastTo l l.length)) := by
  have h := libS_ok l hl
  refine PCall.intro (ps := [ii (lastTo l l.length)]) fn21 (by simp) ?_
  unfold ac21
  simp only [argFr]
  (repeat' (first | ((first | (with_reducible refine aops_call fun C hC => ?_) | (with_reducible refine aopsD_call fun C hC => ?_) | ((with_reducible intro C hC); (with_reducible refine ax_call_mp ?_))); (first | (simp only [go_sem]; (first | ((with_reducible apply ACall.pure0 [] (h)); (focus (exact vwA)))))); (simp only [PV.scal, PV.scalL, if_true, Bool.and_true, Bool.and_false, Bool.false_and, Bool.true_and, frz, List.map_nil, Bool.false_eq_true, if_false, ite_self]); ((with_reducible first | refine finA hC ?_ | refine finD hC ?_); clear hC C)) | ((with_reducible first | refine aops_cons' fun C hC => ?_ | refine aopsD_cons' fun C hC => ?_ | intro C hC); simp only [go_sem]; ((with_reducible first | refine finA hC ?_ | refine finD hC ?_); clear hC C)) | (with_reducible first | refine awp_seq_k fun K hK => ?_ | refine awp_reg_k fun K hK => ?_ | refine awp_dreg_k fun K hK => ?_ | (refine aops_nil ?_; refine hK _ _ ?_; try clear hK K) | (refine aopsD_nil ?_; refine hK _ _ _ ?_ ?_; (focus kernel_rfl); try clear hK K) | (refine thn_normal ?_; refine hK _ _ ?_; try clear hK K) | refine catch_normal ?_ | refine awp_skip_k ?_ | refine awp_ret_k ?_ | refine awp_exit_k ?_ | refine awp_block_k ?_ | (refine thn_exit ?_; try clear hK K) | (refine thn_ret ?_; try clear hK K) | refine catch_ret ?_ | refine catch_exit ?_ | (refine catch_other ?_ ?_; focus decide)) | ((with_reducible first | apply aops_guard' | apply aopsD_guard' | apply awp_cond_g); focus (simp only [go_sem]; exact rfl)) | (with_reducible first | refine gk_tt ?_ | refine gk_ff ?_ | refine ck_t ?_ | refine ck_f ?_) | ((with_reducible first | refine gk_tf ?_ | refine gk_ft ?_ | refine gk_u ?_ | refine gk_u' ?_); first | (intro _ e; (first | rw [put_some] at e | rw [put_none] at e); subst e) | (intro _ _ e e'; (first | rw [put_some] at e | rw [put_none] at e); subst e; subst e'))))
  (refine retP_ret (List.range 40) rfl ?_; exact vwA)
/-! ### the shelf -/
theorem cnt_ok (l : List UInt8) : PCall Tryd.prog 20 [sb l, sb [10]] (ii (cntN l : Nat)) := by
  refine ⟨⟨_, Tryd.func20, rfl, rfl⟩, fun I w us hI hus => ?_⟩
  simp only [RPL, RP] at hus
  obtain ⟨u1, _, rfl, rfl, u2, _, rfl, rfl, rfl⟩ := hus
  refine (sh_strings_Count_one ⟨l.toArray⟩ 10 w).mono fun e w' ⟨he, hw⟩ => ?_
  subst hw
  refine ⟨_, I, he, .refl _, fun a v h _ => h, hI, ?_, Below.refl _ _⟩
  simp only [RP]
  rfl
theorem tab1 : ∀ c : Nat, c < 256 → (if c < 128 then 240 else if c < 194 then 241 else if c < 224 then 2 else if c = 224 then 19 else if c < 237 then 3 else if c = 237 then 35 else if c < 240 then 3 else if c = 240 then 52 else if c < 244 then 4 else if c = 244 then 68 else 241 : Nat) = Go.Lib.firstT c := fun c _ => rfl
theorem dec_ok (l : List UInt8) : PCall Tryd.prog 22 [sb l] (.tup [.lit (.int .i32 ((dec l).1 : Int)), ii ((dec l).2 : Nat)]) := by
  refine ⟨⟨_, Tryd.func22, rfl, rfl⟩, fun I w us hI hus => ?_⟩
  simp only [RPL, RP] at hus
  obtain ⟨u1, _, rfl, rfl, rfl⟩ := hus
  have hT : Go.Lib.Utf8Tabs 1 2 w := by
    refine ⟨fun c hc => hI.ok _ _ (hI.laid 1 _ (by unfold laidL; exact List.mem_cons_self ..) c _ ?_), fun i hi => ⟨hI.ok _ _ (hI.laid 2 _ (by unfold laidL; exact List.mem_cons_of_mem _ (List.mem_singleton.2 rfl)) (2 * i) _ ?_), hI.ok _ _ (hI.laid 2 _ (by unfold laidL; exact List.mem_cons_of_mem _ (List.mem_singleton.2 rfl)) (2 * i + 1) _ ?_)⟩⟩
    · rw [List.getElem?_map, List.getElem?_range hc]; rfl
    · rw [List.getElem?_map, List.getElem?_range (by omega)]
      simp only [Option.map_some, Option.some.injEq]
      rw [if_pos (by omega), show 2 * i / 2 = i by omega]; rfl
    · rw [List.getElem?_map, List.getElem?_range (by omega)]
      simp only [Option.map_some, Option.some.injEq]
      rw [if_neg (by omega), show (2 * i + 1) / 2 = i by omega]; rfl
  refine (sh_utf8_DecodeRuneInString ⟨l.toArray⟩ w hT).mono fun e w' ⟨he, hw⟩ => ?_
  refine ⟨_, I, he, .refl _, fun a v h _ => h, ⟨fun a v h => ?_, hI.laid⟩, ?_, hw⟩
  · have hlt := World.block_lt_of_cell? w a (hI.ok a v h)
    rw [World.cell?_of_block (w := w) (hw.block _ hlt)]; exact hI.ok a v h
  · simp only [RP]
    exact ⟨_, rfl, by simp [RPL, RP, dec]⟩
/-! ### widths -/
def wFn (u : Bool) : FuncId := if u then 16 else 18
theorem w16_ok (r : Nat) : PCall Tryd.prog 16 [.lit (.int .i32 (r : Int))] (ii (un r : Nat)) := by
  refine PCall.intro (ps := [ii (un r : Nat)]) fn16 (by simp) ?_
  unfold ac16
  simp only [argFr]
  unfold un
  cases h : decide ((r : Int) > 65535) with
  | true =>
    have h1 : r > 65535 := by have := of_decide_eq_true h; omega
    (repeat' (first | ((with_reducible first | refine aops_cons' fun C hC => ?_ | refine aopsD_cons' fun C hC => ?_ | intro C hC); simp only [go_sem, h]; ((with_reducible first | refine finA hC ?_ | refine finD hC ?_); clear hC C)) | (with_reducible first | refine awp_seq_k fun K hK => ?_ | refine awp_reg_k fun K hK => ?_ | refine awp_dreg_k fun K hK => ?_ | (refine aops_nil ?_; refine hK _ _ ?_; try clear hK K) | (refine aopsD_nil ?_; refine hK _ _ _ ?_ ?_; (focus kernel_rfl); try clear hK K) | (refine thn_normal ?_; refine hK _ _ ?_; try clear hK K) | refine catch_normal ?_ | refine awp_skip_k ?_ | refine awp_ret_k ?_ | refine awp_exit_k ?_ | refine awp_block_k ?_ | (refine thn_exit ?_; try clear hK K) | (refine thn_ret ?_; try clear hK K) | refine catch_ret ?_ | refine catch_exit ?_ | (refine catch_other ?_ ?_; focus decide)) | ((with_reducible first | apply aops_guard' | apply aopsD_guard' | apply awp_cond_g); focus (simp only [go_sem, h]; exact rfl)) | (with_reducible first | refine gk_tt ?_ | refine gk_ff ?_ | refine ck_t ?_ | refine ck_f ?_) | ((with_reducible first | refine gk_tf ?_ | refine gk_ft ?_ | refine gk_u ?_ | refine gk_u' ?_); first | (intro _ e; (first | rw [put_some] at e | rw [put_none] at e); subst e) | (intro _ _ e e'; (first | rw [put_some] at e | rw [put_none] at e); subst e; subst e'))))
    rw [if_pos h1]
    (refine retP_ret (List.range 40) rfl ?_; exact vwA)
  | false =>
    have h1 : ¬ r > 65535 := by have := of_decide_eq_false h; omega
    (repeat' (first | ((with_reducible first | refine aops_cons' fun C hC => ?_ | refine aopsD_cons' fun C hC => ?_ | intro C hC); simp only [go_sem, h]; ((with_reducible first | refine finA hC ?_ | refine finD hC ?_); clear hC C)) | (with_reducible first | refine awp_seq_k fun K hK => ?_ | refine awp_reg_k fun K hK => ?_ | refine awp_dreg_k fun K hK => ?_ | (refine aops_nil ?_; refine hK _ _ ?_; try clear hK K) | (refine aopsD_nil ?_; refine hK _ _ _ ?_ ?_; (focus kernel_rfl); try clear hK K) | (refine thn_normal ?_; refine hK _ _ ?_; try clear hK K) | refine catch_normal ?_ | refine awp_skip_k ?_ | refine awp_ret_k ?_ | refine awp_exit_k ?_ | refine awp_block_k ?_ | (refine thn_exit ?_; try clear hK K) | (refine thn_ret ?_; try clear hK K) | refine catch_ret ?_ | refine catch_exit ?_ | (refine catch_other ?_ ?_; focus decide)) | ((with_reducible first | apply aops_guard' | apply aopsD_guard' | apply awp_cond_g); focus (simp only [go_sem, h]; exact rfl)) | (with_reducible first | refine gk_tt ?_ | refine gk_ff ?_ | refine ck_t ?_ | refine ck_f ?_) | ((with_reducible first | refine gk_tf ?_ | refine gk_ft ?_ | refine gk_u ?_ | refine gk_u' ?_); first | (intro _ e; (first | rw [put_some] at e | rw [put_none] at e); subst e) | (intro _ _ e e'; (first | rw [put_some] at e | rw [put_none] at e); subst e; subst e'))))
    rw [if_neg h1]
    (refine retP_ret (List.range 40) rfl ?_; exact vwA)
theorem w18_ok (r : Nat) : PCall Tryd.prog 18 [.lit (.int .i32 (r : Int))] (ii 1) := by
  refine PCall.intro (ps := [ii 1]) fn18 (by simp) ?_
  unfold ac18
  simp only [argFr]
  (repeat' (first | ((with_reducible first | refine aops_cons' fun C hC => ?_ | refine aopsD_cons' fun C hC => ?_ | intro C hC); simp only [go_sem]; ((with_reducible first | refine finA hC ?_ | refine finD hC ?_); clear hC C)) | (with_reducible first | refine awp_seq_k fun K hK => ?_ | refine awp_reg_k fun K hK => ?_ | refine awp_dreg_k fun K hK => ?_ | (refine aops_nil ?_; refine hK _ _ ?_; try clear hK K) | (refine aopsD_nil ?_; refine hK _ _ _ ?_ ?_; (focus kernel_rfl); try clear hK K) | (refine thn_normal ?_; refine hK _ _ ?_; try clear hK K) | refine catch_normal ?_ | refine awp_skip_k ?_ | refine awp_ret_k ?_ | refine awp_exit_k ?_ | refine awp_block_k ?_ | (refine thn_exit ?_; try clear hK K) | (refine thn_ret ?_; try clear hK K) | refine catch_ret ?_ | refine catch_exit ?_ | (refine catch_other ?_ ?_; focus decide)) | ((with_reducible first | apply aops_guard' | apply aopsD_guard' | apply awp_cond_g); focus (simp only [go_sem]; exact rfl)) | (with_reducible first | refine gk_tt ?_ | refine gk_ff ?_ | refine ck_t ?_ | refine ck_f ?_) | ((with_reducible first | refine gk_tf ?_ | refine gk_ft ?_ | refine gk_u ?_ | refine gk_u' ?_); first | (intro _ e; (first | rw [put_some] at e | rw [put_none] at e); subst e) | (intro _ _ e e'; (first | rw [put_some] at e | rw [put_none] at e); subst e; subst e'))))
  (refine retP_ret (List.range 40) rfl ?_; exact vwA)
theorem w_ok (u : Bool) (r : Nat) : PCall Tryd.prog (wFn u) ([.lit (.int .i32 (r : Int))] ++ []) (ii (wd u r : Nat)) := by
  cases u with
  | true => exact w16_ok r
  | false => exact w18_ok r
end Go.Proofs.YtgphapkpoamcgaaDoor
