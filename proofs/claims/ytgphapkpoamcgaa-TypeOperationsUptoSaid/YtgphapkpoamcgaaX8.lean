/- TypeOperations: the plain law and the walk. -/
import Derived.Test.YtgphapkpoamcgaaX7
import Derived.Test.YtgphapkpoamcgaaS6
set_option maxRecDepth 10000
set_option linter.unusedSimpArgs false
set_option linter.unusedVariables false
namespace Go.Proofs.Ytgphapkpoamcgaa
open Go Go.Ab
def ins (xs : List Int) (v : Int) : List Int := if (xs.any fun x => x == v) then xs else xs ++ [v]
theorem addAll_app : ∀ (us vs xs : List Int), addAll xs (us ++ vs) = addAll (addAll xs us) vs
  | [], vs, xs => rfl
  | u :: us, vs, xs => by simp only [List.cons_append, addAll, addAll_app us vs]
theorem mem_addAll (x : Int) : ∀ (vs xs : List Int), x ∈ addAll xs vs ↔ x ∈ xs ∨ x ∈ vs
  | [], xs => by simp [addAll]
  | v :: vs, xs => by
    simp only [addAll, mem_addAll x vs]
    by_cases h : (xs.any fun y => y == v) = true
    · rw [if_pos h]
      have h : v ∈ xs := by simpa using h
      constructor
      · rintro (h1 | h1) <;> simp [h1]
      · rintro (h1 | h1)
        · exact .inl h1
        · rcases List.mem_cons.1 h1 with rfl | h1
          · exact .inl h
          · exact .inr h1
    · rw [if_neg h]
      simp only [List.mem_append, List.mem_cons, List.not_mem_nil, or_false, or_assoc]
theorem any_mem {xs : List Int} {v : Int} (h : v ∈ xs) : (xs.any fun x => x == v) = true := by simpa using h
theorem addAll_addAll : ∀ (l ys xs : List Int), addAll xs (addAll ys l) = addAll (addAll xs ys) l
  | [], ys, xs => rfl
  | v :: l, ys, xs => by
    simp only [addAll]
    rw [addAll_addAll l]
    by_cases h : (ys.any fun y => y == v) = true
    · rw [if_pos h]
      have h : v ∈ ys := by simpa using h
      rw [if_pos (any_mem ((mem_addAll v ys xs).2 (.inr h)))]
    · rw [if_neg h, addAll_app]
      simp only [addAll]
def flat : List Ty → List Int
  | [] => []
  | t :: ts => vo t ++ flat ts
theorem voL_flat : ∀ (ts : List Ty) (ys : List Int), voL ts ys = addAll ys (flat ts)
  | [], ys => rfl
  | t :: ts, ys => by simp only [voL, flat, addAll_app, voL_flat ts]
theorem any_sym (xs : List Int) (v : Int) : (xs.any fun x => v == x) = (xs.any fun x => x == v) := by
  congr 1; funext x; exact Bool.beq_comm
mutual
theorem afv_vo : ∀ (t : Ty) (xs : List Int), wfT t = true → afv t xs = addAll xs (vo t)
  | .mk k id ss, xs, h => by
    simp only [wfT] at h
    split at h
    · rename_i hn
      by_cases hk : k = 1
      · subst hk
        have hl : ss = [] := by
          simp [nwf] at hn
          exact hn.2
        subst hl
        have e : addAll xs (vo (.mk 1 id [])) = if (xs.any fun x => x == id) then xs else xs ++ [id] := rfl
        rw [e]
        simp only [afv, afvL, any_sym]
        simp only [beq_self_eq_true, if_true]
        cases (xs.any fun x => x == id) <;> rfl
      · have hk' : (k == 1) = false := by simpa using hk
        simp only [afv, vo, hk', Bool.false_eq_true, if_false]
        rw [voL_flat, addAll_addAll, addAll]
        exact afvL_vo ss xs h
    · cases h
theorem afvL_vo : ∀ (ts : List Ty) (xs : List Int), wfTL ts = true → afvL ts xs = addAll xs (flat ts)
  | [], xs, _ => rfl
  | t :: ts, xs, h => by
    simp only [wfTL] at h
    split at h
    · rename_i hn
      simp only [afvL, flat, addAll_app]
      rw [afv_vo t xs hn, afvL_vo ts _ h]
    · cases h
end
theorem vo_dup : ∀ t : Ty, addAll [] (vo t) = vo t
  | .mk k id ss => by
    simp only [vo]
    split
    · rfl
    · rw [voL_flat, addAll_addAll, addAll]
theorem fvs_vo {t : Ty} (h : wfT t = true) : fvs t = vo t := by rw [fvs, afv_vo t [] h, vo_dup]
theorem wf_err {t : Ty} (h : errT t = 0) : wfT t = true := by
  simp only [errT] at h
  split at h
  · cases h
  · split at h
    · cases h
    · rename_i h; simpa using h
set_option maxHeartbeats 8000000 in
theorem ten_ok (a b : Ty) (s : List Bd) (ha : nds a ≤ 1048576) : PCall Try.prog 10 [a.enc, b.enc, .list 4 (encB s)] (bb true) := by
  have c1 := twork2_ok
  have c2 := size_ok a ha
  have c3 := valid_ok a
  rw [val_err] at c3
  have c4 := err_ok a ha
  have c5 := equal_ok a b
  have c6 := equal2_ok a b
  refine PCall.intro (ps := [bb true]) fn10 (by simp) ?_
  unfold ac10
  simp only [argFr, Nat.zero_add, Nat.reduceAdd]
  cases hs : decide ((nds a : Int) > 2000) with
  | true =>
    (repeat' (first | ((first | (with_reducible refine aops_call fun C hC => ?_) | (with_reducible refine aopsD_call fun C hC => ?_) | ((with_reducible intro C hC); (with_reducible refine ax_call_mp ?_))); (first | (simp only [go_sem, cells_enc, Ty.tc, scal_enc, hs]; (first | ((with_reducible apply ACall.pure0 [] (c1)); (focus (exact vwA))) | ((with_reducible apply ACall.pure0 [] (c2)); (focus (exact vwA)))))); (simp only [PV.scal, PV.scalL, if_true, Bool.and_true, Bool.and_false, Bool.false_and, Bool.true_and, frz, List.map_nil, Bool.false_eq_true, if_false, ite_self, cells_enc, Ty.tc, scal_enc, hs]); (first | (with_reducible refine finA hC ?_); clear hC C | (with_reducible refine finD hC ?_); clear hC C)) | ((with_reducible refine aops_cons' fun C hC => ?_); simp only [go_sem, cells_enc, Ty.tc, scal_enc, hs]; (with_reducible refine finA hC ?_); clear hC C) | ((with_reducible refine aopsD_cons' fun C hC => ?_); simp only [go_sem, cells_enc, Ty.tc, scal_enc, hs]; (with_reducible refine finD hC ?_); clear hC C) | ((with_reducible refine awp_seq_k fun K hK => ?_)) | ((with_reducible refine awp_reg_k fun K hK => ?_)) | ((with_reducible refine awp_dreg_k fun K hK => ?_)) | ((with_reducible refine aops_nil ?_); (with_reducible refine hK _ _ ?_); try clear hK K) | ((with_reducible refine aopsD_nil ?_); (with_reducible refine hK _ _ _ ?_ ?_); (focus (kernel_rfl)); try clear hK K) | ((with_reducible refine thn_normal ?_); (with_reducible refine hK _ _ ?_); try clear hK K) | ((with_reducible refine catch_normal ?_)) | ((with_reducible refine awp_skip_k ?_)) | ((with_reducible refine awp_ret_k ?_)) | ((with_reducible refine awp_exit_k ?_)) | ((with_reducible refine awp_block_k ?_)) | ((with_reducible refine thn_exit ?_); try clear hK K) | ((with_reducible refine thn_ret ?_); try clear hK K) | ((with_reducible refine catch_ret ?_)) | ((with_reducible refine catch_exit ?_)) | ((with_reducible refine catch_other ?_ ?_); (focus (decide))) | ((with_reducible apply aops_guard'); (focus (simp only [go_sem, cells_enc, Ty.tc, scal_enc, hs]; exact rfl))) | ((with_reducible apply aopsD_guard'); (focus (simp only [go_sem, cells_enc, Ty.tc, scal_enc, hs]; exact rfl))) | (first | (with_reducible refine gk_tt ?_) | (with_reducible refine gk_ff ?_)) | ((with_reducible intro C hC); simp only [go_sem, cells_enc, Ty.tc, scal_enc, hs]; (first | (with_reducible refine finA hC ?_); clear hC C | (with_reducible refine finD hC ?_); clear hC C)) | ((first | (with_reducible refine gk_tf ?_) | (with_reducible refine gk_ft ?_) | (with_reducible refine gk_u ?_) | (with_reducible refine gk_u' ?_)); first | (intro _ e; (first | rw [put_some] at e | rw [put_none] at e); subst e) | (intro _ _ e e'; (first | rw [put_some] at e | rw [put_none] at e); subst e; subst e')) | ((with_reducible apply awp_cond_g); (focus (simp only [go_sem, cells_enc, Ty.tc, scal_enc, hs]; exact rfl))) | (with_reducible refine ck_t ?_) | (with_reducible refine ck_f ?_)))
    (refine retP_ret (List.range 40) rfl ?_; exact vwA)
  | false =>
    cases he : (errT a == 0) with
    | false =>
      have hne : (errT a != errT a) = false := by simp
      have hne2 : (errT a != 0) = true := by simp only [bne, he]; rfl
      have hee : (!(eqT a b == eqT a b)) = false := by simp
      (repeat' (first | ((first | (with_reducible refine aops_call fun C hC => ?_) | (with_reducible refine aopsD_call fun C hC => ?_) | ((with_reducible intro C hC); (with_reducible refine ax_call_mp ?_))); (first | (simp only [go_sem, cells_enc, Ty.tc, scal_enc, hs, hne, hne2, hee]; (first | ((with_reducible apply ACall.pure0 [] (c1)); (focus (exact vwA))) | ((with_reducible apply ACall.pure0 [] (c2)); (focus (exact vwA))) | ((with_reducible apply ACall.pure0 [] (c3)); (focus (exact vwA))) | ((with_reducible apply ACall.pure0 [] (c4)); (focus (exact vwA))) | ((with_reducible apply ACall.pure0 [] (c5)); (focus (exact vwA))) | ((with_reducible apply ACall.pure0 [] (c6)); (focus (exact vwA)))))); (simp only [PV.scal, PV.scalL, if_true, Bool.and_true, Bool.and_false, Bool.false_and, Bool.true_and, frz, List.map_nil, Bool.false_eq_true, if_false, ite_self, cells_enc, Ty.tc, scal_enc, hs, hne, hne2, hee]); (first | (with_reducible refine finA hC ?_); clear hC C | (with_reducible refine finD hC ?_); clear hC C)) | ((with_reducible refine aops_cons' fun C hC => ?_); simp only [go_sem, cells_enc, Ty.tc, scal_enc, hs, hne, hne2, hee]; (with_reducible refine finA hC ?_); clear hC C) | ((with_reducible refine aopsD_cons' fun C hC => ?_); simp only [go_sem, cells_enc, Ty.tc, scal_enc, hs, hne, hne2, hee]; (with_reducible refine finD hC ?_); clear hC C) | ((with_reducible refine awp_seq_k fun K hK => ?_)) | ((with_reducible refine awp_reg_k fun K hK => ?_)) | ((with_reducible refine awp_dreg_k fun K hK => ?_)) | ((with_reducible refine aops_nil ?_); (with_reducible refine hK _ _ ?_); try clear hK K) | ((with_reducible refine aopsD_nil ?_); (with_reducible refine hK _ _ _ ?_ ?_); (focus (kernel_rfl)); try clear hK K) | ((with_reducible refine thn_normal ?_); (with_reducible refine hK _ _ ?_); try clear hK K) | ((with_reducible refine catch_normal ?_)) | ((with_reducible refine awp_skip_k ?_)) | ((with_reducible refine awp_ret_k ?_)) | ((with_reducible refine awp_exit_k ?_)) | ((with_reducible refine awp_block_k ?_)) | ((with_reducible refine thn_exit ?_); try clear hK K) | ((with_reducible refine thn_ret ?_); try clear hK K) | ((with_reducible refine catch_ret ?_)) | ((with_reducible refine catch_exit ?_)) | ((with_reducible refine catch_other ?_ ?_); (focus (decide))) | ((with_reducible apply aops_guard'); (focus (simp only [go_sem, cells_enc, Ty.tc, scal_enc, hs, hne, hne2, hee]; exact rfl))) | ((with_reducible apply aopsD_guard'); (focus (simp only [go_sem, cells_enc, Ty.tc, scal_enc, hs, hne, hne2, hee]; exact rfl))) | (first | (with_reducible refine gk_tt ?_) | (with_reducible refine gk_ff ?_)) | ((with_reducible intro C hC); simp only [go_sem, cells_enc, Ty.tc, scal_enc, hs, hne, hne2, hee]; (first | (with_reducible refine finA hC ?_); clear hC C | (with_reducible refine finD hC ?_); clear hC C)) | ((first | (with_reducible refine gk_tf ?_) | (with_reducible refine gk_ft ?_) | (with_reducible refine gk_u ?_) | (with_reducible refine gk_u' ?_)); first | (intro _ e; (first | rw [put_some] at e | rw [put_none] at e); subst e) | (intro _ _ e e'; (first | rw [put_some] at e | rw [put_none] at e); subst e; subst e')) | ((with_reducible apply awp_cond_g); (focus (simp only [go_sem, cells_enc, Ty.tc, scal_enc, hs, hne, hne2, hee]; exact rfl))) | (with_reducible refine ck_t ?_) | (with_reducible refine ck_f ?_)))
      (refine retP_ret (List.range 40) rfl ?_; exact vwA)
    | true =>
      have he0 : errT a = 0 := by simpa using he
      have hne : (errT a != errT a) = false := by simp
      have hne2 : (errT a != 0) = false := by simp only [bne, he]; rfl
      have hee : (!(eqT a b == eqT a b)) = false := by simp
      have c7 := free_ok a (by have := fvs_len a; omega)
      rw [fvs_vo (wf_err he0)] at c7
      have c8 := vars_ok a ha
      have c9 := eqi_ok (vo a) (vo a)
      rw [(eqIL_iff _ _).2 rfl] at c9
      have d1 := subst_ok a s
      have d2 := sv_ok s a
      have d3 := equal2_ok (subT s a) (subT s a)
      rw [(eqT_iff _ _).2 rfl] at d3
      (repeat' (first | ((first | (with_reducible refine aops_call fun C hC => ?_) | (with_reducible refine aopsD_call fun C hC => ?_) | ((with_reducible intro C hC); (with_reducible refine ax_call_mp ?_))); (first | (simp only [go_sem, cells_enc, Ty.tc, scal_enc, hs, hne, hne2, hee]; (first | ((with_reducible apply ACall.pure0 [] (c1)); (focus (exact vwA))) | ((with_reducible apply ACall.pure0 [] (c2)); (focus (exact vwA))) | ((with_reducible apply ACall.pure0 [] (c3)); (focus (exact vwA))) | ((with_reducible apply ACall.pure0 [] (c4)); (focus (exact vwA))) | ((with_reducible apply ACall.pure0 [] (c5)); (focus (exact vwA))) | ((with_reducible apply ACall.pure0 [] (c6)); (focus (exact vwA))) | ((with_reducible apply ACall.pure0 [] (c7)); (focus (exact vwA))) | ((with_reducible apply ACall.pure0 [] (c8)); (focus (exact vwA))) | ((with_reducible apply ACall.pure0 [] (c9)); (focus (exact vwA))) | ((with_reducible apply ACall.pure0 [] (d1)); (focus (exact vwA))) | ((with_reducible apply ACall.pure0 [] (d2)); (focus (exact vwA))) | ((with_reducible apply ACall.pure0 [] (d3)); (focus (exact vwA)))))); (simp only [PV.scal, PV.scalL, if_true, Bool.and_true, Bool.and_false, Bool.false_and, Bool.true_and, frz, List.map_nil, Bool.false_eq_true, if_false, ite_self, cells_enc, Ty.tc, scal_enc, hs, hne, hne2, hee]); (first | (with_reducible refine finA hC ?_); clear hC C | (with_reducible refine finD hC ?_); clear hC C)) | ((with_reducible refine aops_cons' fun C hC => ?_); simp only [go_sem, cells_enc, Ty.tc, scal_enc, hs, hne, hne2, hee]; (with_reducible refine finA hC ?_); clear hC C) | ((with_reducible refine aopsD_cons' fun C hC => ?_); simp only [go_sem, cells_enc, Ty.tc, scal_enc, hs, hne, hne2, hee]; (with_reducible refine finD hC ?_); clear hC C) | ((with_reducible refine awp_seq_k fun K hK => ?_)) | ((with_reducible refine awp_reg_k fun K hK => ?_)) | ((with_reducible refine awp_dreg_k fun K hK => ?_)) | ((with_reducible refine aops_nil ?_); (with_reducible refine hK _ _ ?_); try clear hK K) | ((with_reducible refine aopsD_nil ?_); (with_reducible refine hK _ _ _ ?_ ?_); (focus (kernel_rfl)); try clear hK K) | ((with_reducible refine thn_normal ?_); (with_reducible refine hK _ _ ?_); try clear hK K) | ((with_reducible refine catch_normal ?_)) | ((with_reducible refine awp_skip_k ?_)) | ((with_reducible refine awp_ret_k ?_)) | ((with_reducible refine awp_exit_k ?_)) | ((with_reducible refine awp_block_k ?_)) | ((with_reducible refine thn_exit ?_); try clear hK K) | ((with_reducible refine thn_ret ?_); try clear hK K) | ((with_reducible refine catch_ret ?_)) | ((with_reducible refine catch_exit ?_)) | ((with_reducible refine catch_other ?_ ?_); (focus (decide))) | ((with_reducible apply aops_guard'); (focus (simp only [go_sem, cells_enc, Ty.tc, scal_enc, hs, hne, hne2, hee]; exact rfl))) | ((with_reducible apply aopsD_guard'); (focus (simp only [go_sem, cells_enc, Ty.tc, scal_enc, hs, hne, hne2, hee]; exact rfl))) | (first | (with_reducible refine gk_tt ?_) | (with_reducible refine gk_ff ?_)) | ((with_reducible intro C hC); simp only [go_sem, cells_enc, Ty.tc, scal_enc, hs, hne, hne2, hee]; (first | (with_reducible refine finA hC ?_); clear hC C | (with_reducible refine finD hC ?_); clear hC C)) | ((first | (with_reducible refine gk_tf ?_) | (with_reducible refine gk_ft ?_) | (with_reducible refine gk_u ?_) | (with_reducible refine gk_u' ?_)); first | (intro _ e; (first | rw [put_some] at e | rw [put_none] at e); subst e) | (intro _ _ e e'; (first | rw [put_some] at e | rw [put_none] at e); subst e; subst e')) | ((with_reducible apply awp_cond_g); (focus (simp only [go_sem, cells_enc, Ty.tc, scal_enc, hs, hne, hne2, hee]; exact rfl))) | (with_reducible refine ck_t ?_) | (with_reducible refine ck_f ?_)))
      (refine retP_ret (List.range 40) rfl ?_; exact vwA)
end Go.Proofs.Ytgphapkpoamcgaa
