/- The reference's VarsOf. -/
import Derived.Test.YtgphapkpoamcgaaX5
set_option maxRecDepth 10000
set_option linter.unusedSimpArgs false
set_option linter.unusedVariables false
namespace Go.Proofs.Ytgphapkpoamcgaa
open Go Go.Ab
def addAll : List Int → List Int → List Int
  | xs, [] => xs
  | xs, v :: vs => addAll (if (xs.any fun x => x == v) then xs else xs ++ [v]) vs
mutual
def vo : Ty → List Int
  | .mk k id ss => if k == 1 then [id] else voL ss []
def voL : List Ty → List Int → List Int
  | [], xs => xs
  | t :: ts, xs => voL ts (addAll xs (vo t))
end
theorem addAll_mono : ∀ (vs xs : List Int), xs.length ≤ (addAll xs vs).length
  | [], xs => Nat.le_refl _
  | v :: vs, xs => by
    simp only [addAll]
    refine Nat.le_trans ?_ (addAll_mono vs _)
    by_cases h : (xs.any fun x => x == v) = true
    · rw [if_pos h]; exact Nat.le_refl _
    · rw [if_neg h]; simp
theorem addAll_le : ∀ (vs xs : List Int), (addAll xs vs).length ≤ xs.length + vs.length
  | [], xs => Nat.le_refl _
  | v :: vs, xs => by
    simp only [addAll]
    refine Nat.le_trans (addAll_le vs _) ?_
    by_cases h : (xs.any fun x => x == v) = true
    · rw [if_pos h]; simp
    · rw [if_neg h]; simp; omega
theorem voL_mono : ∀ (ts : List Ty) (xs : List Int), xs.length ≤ (voL ts xs).length
  | [], xs => Nat.le_refl _
  | t :: ts, xs => by simp only [voL]; exact Nat.le_trans (addAll_mono _ _) (voL_mono ts _)
mutual
theorem vo_len : ∀ t : Ty, (vo t).length ≤ nds t
  | .mk k id ss => by
    simp only [vo, nds]
    have := voL_len ss []
    by_cases h : (k == 1) = true
    · rw [if_pos h]; simp
    · rw [if_neg h]; simp at this; omega
theorem voL_len : ∀ (ts : List Ty) (xs : List Int), (voL ts xs).length ≤ xs.length + ndsL ts
  | [], xs => by simp [voL, ndsL]
  | t :: ts, xs => by
    simp only [voL, ndsL]
    have h1 := voL_len ts (addAll xs (vo t))
    have h2 := addAll_le (vo t) xs
    have h3 := vo_len t
    omega
end
set_option maxHeartbeats 4000000 in
/-- the inner loop, the list not nil -/
theorem vin_row (k id : Int) (ss : List Ty) (vs : List Int) (hvs : vs.length ≤ 1099511627776) (F : List Int) (hF : F.length ≤ 1099511627776) (i n : Int) (l : PV) {Q : Exit → Fr → Hp → Prop}
    (hQ : Q .normal [(25, .pv (bb false)), (24, .pv (ii vs.length)), (23, .pv (ii vs.length)), (22, .pv (.list 1 (encI vs))), (17, .pv (ii i)), (16, .pv (ii n)), (15, .pv l), (3, .row 1 F.length false)] [some ⟨false, 24, 3, [[.pv (ii k), .pv (ii id), .pv (.list 3 (encL ss))]], none⟩, some (rowI F)]) :
    ∀ (rest pre xs : List Int), pre ++ rest = vs → F = addAll xs rest → loopN (awp Try.prog ac42_l0) (catch_ 2 Q) (rest.length + 1)
       [(24, .pv (ii pre.length)), (23, .pv (ii vs.length)), (22, .pv (.list 1 (encI vs))), (17, .pv (ii i)), (16, .pv (ii n)), (15, .pv l), (3, .row 1 xs.length false)]
       [some ⟨false, 24, 3, [[.pv (ii k), .pv (ii id), .pv (.list 3 (encL ss))]], none⟩, some (rowI xs)] := by
  intro rest
  induction rest with
  | nil =>
    intro pre xs hpre he
    have hpre : pre = vs := by simpa using hpre
    subst hpre
    simp only [addAll] at he
    subst he
    refine loopN_k fun K1 hK1 => ?_
    unfold ac42_l0
    (repeat' (first | ((with_reducible refine aops_cons' fun C hC => ?_); simp only [go_sem, lt_end]; (with_reducible refine finA hC ?_); clear hC C) | ((with_reducible refine aopsD_cons' fun C hC => ?_); simp only [go_sem, lt_end]; (with_reducible refine finD hC ?_); clear hC C) | ((with_reducible refine awp_seq_k fun K hK => ?_)) | ((with_reducible refine awp_reg_k fun K hK => ?_)) | ((with_reducible refine awp_dreg_k fun K hK => ?_)) | ((with_reducible refine aops_nil ?_); (with_reducible refine hK _ _ ?_); try clear hK K) | ((with_reducible refine aopsD_nil ?_); (with_reducible refine hK _ _ _ ?_ ?_); (focus (kernel_rfl)); try clear hK K) | ((with_reducible refine thn_normal ?_); (with_reducible refine hK _ _ ?_); try clear hK K) | ((with_reducible refine catch_normal ?_)) | ((with_reducible refine awp_skip_k ?_)) | ((with_reducible refine awp_ret_k ?_)) | ((with_reducible refine awp_exit_k ?_)) | ((with_reducible refine awp_block_k ?_)) | ((with_reducible refine thn_exit ?_); try clear hK K) | ((with_reducible refine thn_ret ?_); try clear hK K) | ((with_reducible refine catch_ret ?_)) | ((with_reducible refine catch_exit ?_)) | ((with_reducible refine catch_other ?_ ?_); (focus (decide))) | ((with_reducible apply aops_guard'); (focus (simp only [go_sem, lt_end]; exact rfl))) | ((with_reducible apply aopsD_guard'); (focus (simp only [go_sem, lt_end]; exact rfl))) | (first | (with_reducible refine gk_tt ?_) | (with_reducible refine gk_ff ?_)) | ((with_reducible intro C hC); simp only [go_sem, lt_end]; (first | (with_reducible refine finA hC ?_); clear hC C | (with_reducible refine finD hC ?_); clear hC C)) | ((first | (with_reducible refine gk_tf ?_) | (with_reducible refine gk_ft ?_) | (with_reducible refine gk_u ?_) | (with_reducible refine gk_u' ?_)); first | (intro _ e; (first | rw [put_some] at e | rw [put_none] at e); subst e) | (intro _ _ e e'; (first | rw [put_some] at e | rw [put_none] at e); subst e; subst e')) | ((with_reducible apply awp_cond_g); (focus (simp only [go_sem, lt_end]; exact rfl))) | (with_reducible refine ck_t ?_) | (with_reducible refine ck_f ?_)))
    exact hQ
  | cons v rest ih =>
    intro pre xs hpre he
    have hlt : decide ((pre.length : Int) < (vs.length : Int)) = true := by subst hpre; exact lt_app _ _ _
    have hat : (encI vs)[pre.length]? = some (ii v) := by subst hpre; exact encI_at _ _ _
    have hb : pre.length + 1 ≤ big := by have := congrArg List.length hpre; simp at this; unfold big; omega
    have hw := wrapS (n := pre.length) (by unfold big at hb; omega)
    have hc := hasK_ok xs v
    refine loopN_k fun K1 hK1 => ?_
    unfold ac42_l0
    cases hm : (xs.any fun x => x == v) with
    | true =>
      rw [hm] at hc
      (repeat' (first | ((first | (with_reducible refine aops_call fun C hC => ?_) | (with_reducible refine aopsD_call fun C hC => ?_) | ((with_reducible intro C hC); (with_reducible refine ax_call_mp ?_))); (first | (simp only [go_sem, hlt, hat]; (first | ((with_reducible apply ACall.pure0 [1] (hc)); (focus (exact vwA)))))); (simp only [PV.scal, PV.scalL, if_true, Bool.and_true, Bool.and_false, Bool.false_and, Bool.true_and, frz, List.map_nil, Bool.false_eq_true, if_false, ite_self, go_sem, hlt, hat]); (first | (with_reducible refine finA hC ?_); clear hC C | (with_reducible refine finD hC ?_); clear hC C)) | ((with_reducible refine aops_cons' fun C hC => ?_); simp only [go_sem, hlt, hat]; (with_reducible refine finA hC ?_); clear hC C) | ((with_reducible refine aopsD_cons' fun C hC => ?_); simp only [go_sem, hlt, hat]; (with_reducible refine finD hC ?_); clear hC C) | ((with_reducible refine awp_seq_k fun K hK => ?_)) | ((with_reducible refine awp_reg_k fun K hK => ?_)) | ((with_reducible refine awp_dreg_k fun K hK => ?_)) | ((with_reducible refine aops_nil ?_); (with_reducible refine hK _ _ ?_); try clear hK K) | ((with_reducible refine aopsD_nil ?_); (with_reducible refine hK _ _ _ ?_ ?_); (focus (kernel_rfl)); try clear hK K) | ((with_reducible refine thn_normal ?_); (with_reducible refine hK _ _ ?_); try clear hK K) | ((with_reducible refine catch_normal ?_)) | ((with_reducible refine awp_skip_k ?_)) | ((with_reducible refine awp_ret_k ?_)) | ((with_reducible refine awp_exit_k ?_)) | ((with_reducible refine awp_block_k ?_)) | ((with_reducible refine thn_exit ?_); try clear hK K) | ((with_reducible refine thn_ret ?_); try clear hK K) | ((with_reducible refine catch_ret ?_)) | ((with_reducible refine catch_exit ?_)) | ((with_reducible refine catch_other ?_ ?_); (focus (decide))) | ((with_reducible apply aops_guard'); (focus (simp only [go_sem, hlt, hat]; exact rfl))) | ((with_reducible apply aopsD_guard'); (focus (simp only [go_sem, hlt, hat]; exact rfl))) | (first | (with_reducible refine gk_tt ?_) | (with_reducible refine gk_ff ?_)) | ((with_reducible intro C hC); simp only [go_sem, hlt, hat]; (first | (with_reducible refine finA hC ?_); clear hC C | (with_reducible refine finD hC ?_); clear hC C)) | ((first | (with_reducible refine gk_tf ?_) | (with_reducible refine gk_ft ?_) | (with_reducible refine gk_u ?_) | (with_reducible refine gk_u' ?_)); first | (intro _ e; (first | rw [put_some] at e | rw [put_none] at e); subst e) | (intro _ _ e e'; (first | rw [put_some] at e | rw [put_none] at e); subst e; subst e')) | ((with_reducible apply awp_cond_g); (focus (simp only [go_sem, hlt, hat]; exact rfl))) | (with_reducible refine ck_t ?_) | (with_reducible refine ck_f ?_)))
      refine thn_normal ?_
      refine hK1 _ _ _ _ _ (LeB [0, 1] (by refine ⟨?_, ?_, ?_⟩ <;> simp only [leFr, leFb, leHp, V.ren, V.renL, V.bd, V.bdL, allL, lt, Go.Ab.get, hget, List.map_cons, List.map_nil, List.length_cons, List.length_nil, List.length_append, List.getElem?_cons_zero, List.getElem?_cons_succ, List.getElem?_nil, Option.join_some, Option.join_none, List.getD_cons_zero, List.getD_cons_succ, List.getD_nil, Nat.reduceAdd, Nat.reduceLT, Nat.reduceEqDiff, Nat.zero_add, reduceIte, if_true, if_false, and_true, true_and, renL_vcells, allL_vcells, renL_pv, leBlk_some, eq_self, true_or, or_true, reduceCtorEq, false_or, hw, List.length_append, renL_cI, allL_cI])) (ih (pre ++ [v]) xs (by simp [hpre]) (by simpa only [addAll, hm, if_true] using he))
    | false =>
      rw [hm] at hc
      have he' : F = addAll (xs ++ [v]) rest := by simpa only [addAll, hm, Bool.false_eq_true, if_false] using he
      have hl1 : xs.length + 1 ≤ big := by
        have := addAll_mono rest (xs ++ [v])
        rw [← he'] at this
        simp at this; unfold big; omega
      (repeat' (first | ((first | (with_reducible refine aops_call fun C hC => ?_) | (with_reducible refine aopsD_call fun C hC => ?_) | ((with_reducible intro C hC); (with_reducible refine ax_call_mp ?_))); (first | (simp only [go_sem, hlt, hat, List.length_map, hl1]; (first | ((with_reducible apply ACall.pure0 [1] (hc)); (focus (exact vwA)))))); (simp only [PV.scal, PV.scalL, if_true, Bool.and_true, Bool.and_false, Bool.false_and, Bool.true_and, frz, List.map_nil, Bool.false_eq_true, if_false, ite_self, go_sem, hlt, hat, List.length_map, hl1]); (first | (with_reducible refine finA hC ?_); clear hC C | (with_reducible refine finD hC ?_); clear hC C)) | ((with_reducible refine aops_cons' fun C hC => ?_); simp only [go_sem, hlt, hat, List.length_map, hl1]; (with_reducible refine finA hC ?_); clear hC C) | ((with_reducible refine aopsD_cons' fun C hC => ?_); simp only [go_sem, hlt, hat, List.length_map, hl1]; (with_reducible refine finD hC ?_); clear hC C) | ((with_reducible refine awp_seq_k fun K hK => ?_)) | ((with_reducible refine awp_reg_k fun K hK => ?_)) | ((with_reducible refine awp_dreg_k fun K hK => ?_)) | ((with_reducible refine aops_nil ?_); (with_reducible refine hK _ _ ?_); try clear hK K) | ((with_reducible refine aopsD_nil ?_); (with_reducible refine hK _ _ _ ?_ ?_); (focus (kernel_rfl)); try clear hK K) | ((with_reducible refine thn_normal ?_); (with_reducible refine hK _ _ ?_); try clear hK K) | ((with_reducible refine catch_normal ?_)) | ((with_reducible refine awp_skip_k ?_)) | ((with_reducible refine awp_ret_k ?_)) | ((with_reducible refine awp_exit_k ?_)) | ((with_reducible refine awp_block_k ?_)) | ((with_reducible refine thn_exit ?_); try clear hK K) | ((with_reducible refine thn_ret ?_); try clear hK K) | ((with_reducible refine catch_ret ?_)) | ((with_reducible refine catch_exit ?_)) | ((with_reducible refine catch_other ?_ ?_); (focus (decide))) | ((with_reducible apply aops_guard'); (focus (simp only [go_sem, hlt, hat, List.length_map, hl1]; exact rfl))) | ((with_reducible apply aopsD_guard'); (focus (simp only [go_sem, hlt, hat, List.length_map, hl1]; exact rfl))) | (first | (with_reducible refine gk_tt ?_) | (with_reducible refine gk_ff ?_)) | ((with_reducible intro C hC); simp only [go_sem, hlt, hat, List.length_map, hl1]; (first | (with_reducible refine finA hC ?_); clear hC C | (with_reducible refine finD hC ?_); clear hC C)) | ((first | (with_reducible refine gk_tf ?_) | (with_reducible refine gk_ft ?_) | (with_reducible refine gk_u ?_) | (with_reducible refine gk_u' ?_)); first | (intro _ e; (first | rw [put_some] at e | rw [put_none] at e); subst e) | (intro _ _ e e'; (first | rw [put_some] at e | rw [put_none] at e); subst e; subst e')) | ((with_reducible apply awp_cond_g); (focus (simp only [go_sem, hlt, hat, List.length_map, hl1]; exact rfl))) | (with_reducible refine ck_t ?_) | (with_reducible refine ck_f ?_)))
      refine thn_normal ?_
      refine hK1 _ _ _ _ _ (LeB [0, 3] (by refine ⟨?_, ?_, ?_⟩ <;> simp only [leFr, leFb, leHp, V.ren, V.renL, V.bd, V.bdL, allL, lt, Go.Ab.get, hget, List.map_cons, List.map_nil, List.length_cons, List.length_nil, List.length_append, List.getElem?_cons_zero, List.getElem?_cons_succ, List.getElem?_nil, Option.join_some, Option.join_none, List.getD_cons_zero, List.getD_cons_succ, List.getD_nil, Nat.reduceAdd, Nat.reduceLT, Nat.reduceEqDiff, Nat.zero_add, reduceIte, if_true, if_false, and_true, true_and, renL_vcells, allL_vcells, renL_pv, leBlk_some, eq_self, true_or, or_true, reduceCtorEq, false_or, hw, List.length_append, renL_cI, allL_cI, List.map_append, cI, allL_app])) (ih (pre ++ [v]) (xs ++ [v]) (by simp [hpre]) he')
set_option maxHeartbeats 4000000 in
/-- the inner loop, the list nil: one round makes it a row -/
theorem vin_nil (k id : Int) (ss : List Ty) (v : Int) (rest : List Int) (hvs : (v :: rest).length ≤ 1099511627776) (F : List Int) (hF : F.length ≤ 1099511627776) (i n : Int) (l : PV) {Q : Exit → Fr → Hp → Prop}
    (hQ : Q .normal [(25, .pv (bb false)), (24, .pv (ii (v :: rest).length)), (23, .pv (ii (v :: rest).length)), (22, .pv (.list 1 (encI (v :: rest)))), (17, .pv (ii i)), (16, .pv (ii n)), (15, .pv l), (3, .row 1 F.length false)] [some ⟨false, 24, 3, [[.pv (ii k), .pv (ii id), .pv (.list 3 (encL ss))]], none⟩, some (rowI F)])
    (he : F = addAll [] (v :: rest)) : loopN (awp Try.prog ac42_l0) (catch_ 2 Q) ((v :: rest).length + 1)
       [(24, .pv (ii 0)), (23, .pv (ii (v :: rest).length)), (22, .pv (.list 1 (encI (v :: rest)))), (17, .pv (ii i)), (16, .pv (ii n)), (15, .pv l), (3, .pv (.lit (.slice none 0 0)))]
       [some ⟨false, 24, 3, [[.pv (ii k), .pv (ii id), .pv (.list 3 (encL ss))]], none⟩] := by
  have rows := vin_row k id ss (v :: rest) hvs F hF i n l hQ rest [v] [v] rfl (by simpa [addAll] using he)
  have lt0 : decide ((0 : Int) < ((v :: rest).length : Int)) = true := by simp
  have hc := hasK_ok [] v
  refine loopN_k fun K1 hK1 => ?_
  unfold ac42_l0
  (repeat' (first | ((first | (with_reducible refine aops_call fun C hC => ?_) | (with_reducible refine aopsD_call fun C hC => ?_) | ((with_reducible intro C hC); (with_reducible refine ax_call_mp ?_))); (first | (simp only [go_sem, lt0, encI, List.any_nil]; (first | ((with_reducible apply ACall.pure0 [] (hc)); (focus (exact vwA)))))); (simp only [PV.scal, PV.scalL, if_true, Bool.and_true, Bool.and_false, Bool.false_and, Bool.true_and, frz, List.map_nil, Bool.false_eq_true, if_false, ite_self, lt0, encI, List.any_nil]); (first | (with_reducible refine finA hC ?_); clear hC C | (with_reducible refine finD hC ?_); clear hC C)) | ((with_reducible refine aops_cons' fun C hC => ?_); simp only [go_sem, lt0, encI, List.any_nil]; (with_reducible refine finA hC ?_); clear hC C) | ((with_reducible refine aopsD_cons' fun C hC => ?_); simp only [go_sem, lt0, encI, List.any_nil]; (with_reducible refine finD hC ?_); clear hC C) | ((with_reducible refine awp_seq_k fun K hK => ?_)) | ((with_reducible refine awp_reg_k fun K hK => ?_)) | ((with_reducible refine awp_dreg_k fun K hK => ?_)) | ((with_reducible refine aops_nil ?_); (with_reducible refine hK _ _ ?_); try clear hK K) | ((with_reducible refine aopsD_nil ?_); (with_reducible refine hK _ _ _ ?_ ?_); (focus (kernel_rfl)); try clear hK K) | ((with_reducible refine thn_normal ?_); (with_reducible refine hK _ _ ?_); try clear hK K) | ((with_reducible refine catch_normal ?_)) | ((with_reducible refine awp_skip_k ?_)) | ((with_reducible refine awp_ret_k ?_)) | ((with_reducible refine awp_exit_k ?_)) | ((with_reducible refine awp_block_k ?_)) | ((with_reducible refine thn_exit ?_); try clear hK K) | ((with_reducible refine thn_ret ?_); try clear hK K) | ((with_reducible refine catch_ret ?_)) | ((with_reducible refine catch_exit ?_)) | ((with_reducible refine catch_other ?_ ?_); (focus (decide))) | ((with_reducible apply aops_guard'); (focus (simp only [go_sem, lt0, encI, List.any_nil]; exact rfl))) | ((with_reducible apply aopsD_guard'); (focus (simp only [go_sem, lt0, encI, List.any_nil]; exact rfl))) | (first | (with_reducible refine gk_tt ?_) | (with_reducible refine gk_ff ?_)) | ((with_reducible intro C hC); simp only [go_sem, lt0, encI, List.any_nil]; (first | (with_reducible refine finA hC ?_); clear hC C | (with_reducible refine finD hC ?_); clear hC C)) | ((first | (with_reducible refine gk_tf ?_) | (with_reducible refine gk_ft ?_) | (with_reducible refine gk_u ?_) | (with_reducible refine gk_u' ?_)); first | (intro _ e; (first | rw [put_some] at e | rw [put_none] at e); subst e) | (intro _ _ e e'; (first | rw [put_some] at e | rw [put_none] at e); subst e; subst e')) | ((with_reducible apply awp_cond_g); (focus (simp only [go_sem, lt0, encI, List.any_nil]; exact rfl))) | (with_reducible refine ck_t ?_) | (with_reducible refine ck_f ?_)))
  refine thn_normal ?_
  refine hK1 _ _ _ _ _ (LeB [0, 2] (by refine ⟨?_, ?_, ?_⟩ <;> simp only [leFr, leFb, leHp, V.ren, V.renL, V.bd, V.bdL, allL, lt, Go.Ab.get, hget, List.map_cons, List.map_nil, List.length_cons, List.length_nil, List.length_append, List.getElem?_cons_zero, List.getElem?_cons_succ, List.getElem?_nil, Option.join_some, Option.join_none, List.getD_cons_zero, List.getD_cons_succ, List.getD_nil, Nat.reduceAdd, Nat.reduceLT, Nat.reduceEqDiff, Nat.zero_add, reduceIte, if_true, if_false, and_true, true_and, renL_vcells, allL_vcells, renL_pv, leBlk_some, eq_self, true_or, or_true, reduceCtorEq, false_or, wrap01, renL_cI, renL_cI1, allL_cI, bdL_cI1, allL_app, List.map_cons, allL, cI])) rows
end Go.Proofs.Ytgphapkpoamcgaa
