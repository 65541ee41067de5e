/- Format: the reference's contract. -/
import Derived.Test.YtgphapkpoamcgaaF5a
import Derived.Test.YtgphapkpoamcgaaF5b
import Derived.Test.YtgphapkpoamcgaaF5c
set_option maxRecDepth 10000
set_option linter.unusedSimpArgs false
set_option linter.unusedVariables false
namespace Go.Proofs.Ytgphapkpoamcgaa
open Go Go.Ab
set_option maxHeartbeats 8000000 in
theorem rfm_ok (ss : List Sy) (p q : PV) (hM : ∀ s ∈ ss, s.nm.length ≤ 1048576) : ∀ t : Ty, nds t ≤ 1048576 → PCall Try.prog 46 [rsv ss p q, t.enc] (sL (fm ss t))
  | .mk k id ts, hn => by
    have hnL : ndsL ts ≤ 1048576 := by simp only [nds] at hn; omega
    have hrec : ∀ t ∈ ts, PCall Try.prog 46 [rsv ss p q, t.enc] (sL (fm ss t)) := fun t ht => rfm_ok ss p q hM t (Nat.le_trans (nds_memF ht) hnL)
    have hbd : ∀ t, nds t ≤ 1048576 → (fm ss t).length ≤ 140737488355328 := fun t h => by
      have := fm_le hM (Nat.le_refl 1048592) t
      omega
    have hnl := nm_le hM id
    refine PCall.intro' (ps := [sL (fm ss (.mk k id ts))]) fn46 (by simp) fun hok => ?_
    have hss : ts.length ≤ 1099511627776 := by
      simp only [PV.okL, Ty.enc, PV.ok, encL_len, big] at hok; exact hok.2.1.2.2.1.1
    have hsy : ss.length ≤ 1099511627776 := by
      simp only [PV.okL, Ty.enc, PV.ok, encS_len, big] at hok; exact hok.1.1.1
    clear hok
    have hir := inRF_ok id 0 ((ss.length : Int) - 1)
    have hw : IntKind.i64.wrap ((ss.length : Int) - 1) = (ss.length : Int) - 1 := by
      rw [IntWalk.i64_in _ (by omega)]
    unfold ac46
    simp only [argFr, Nat.zero_add, Ty.enc]
    (repeat' (first | ((first | (with_reducible refine aops_call fun C hC => ?_) | (with_reducible refine aopsD_call fun C hC => ?_) | ((with_reducible intro C hC); (with_reducible refine ax_call_mp ?_))); (first | (simp only [go_sem, encS_len, hw]; (first | ((with_reducible apply ACall.pure0 [] (hir)); (focus (exact vwA)))))); (simp only [PV.scal, PV.scalL, if_true, Bool.and_true, Bool.and_false, Bool.false_and, Bool.true_and, frz, List.map_nil, Bool.false_eq_true, if_false, ite_self, encS_len, hw]); (first | (with_reducible refine finA hC ?_); clear hC C | (with_reducible refine finD hC ?_); clear hC C)) | ((with_reducible refine aops_cons' fun C hC => ?_); simp only [go_sem, encS_len, hw]; (with_reducible refine finA hC ?_); clear hC C) | ((with_reducible refine aopsD_cons' fun C hC => ?_); simp only [go_sem, encS_len, hw]; (with_reducible refine finD hC ?_); clear hC C) | ((with_reducible refine awp_seq_k fun K hK => ?_)) | ((with_reducible refine awp_reg_k fun K hK => ?_)) | ((with_reducible refine awp_dreg_k fun K hK => ?_)) | ((with_reducible refine aops_nil ?_); (with_reducible refine hK _ _ ?_); try clear hK K) | ((with_reducible refine aopsD_nil ?_); (with_reducible refine hK _ _ _ ?_ ?_); (focus (kernel_rfl)); try clear hK K) | ((with_reducible refine thn_normal ?_); (with_reducible refine hK _ _ ?_); try clear hK K) | ((with_reducible refine catch_normal ?_)) | ((with_reducible refine awp_skip_k ?_)) | ((with_reducible refine awp_ret_k ?_)) | ((with_reducible refine awp_exit_k ?_)) | ((with_reducible refine awp_block_k ?_)) | ((with_reducible refine thn_exit ?_); try clear hK K) | ((with_reducible refine thn_ret ?_); try clear hK K) | ((with_reducible refine catch_ret ?_)) | ((with_reducible refine catch_exit ?_)) | ((with_reducible refine catch_other ?_ ?_); (focus (decide))) | ((with_reducible apply aops_guard'); (focus (simp only [go_sem, encS_len, hw]; exact rfl))) | ((with_reducible apply aopsD_guard'); (focus (simp only [go_sem, encS_len, hw]; exact rfl))) | (first | (with_reducible refine gk_tt ?_) | (with_reducible refine gk_ff ?_)) | ((with_reducible intro C hC); simp only [go_sem, encS_len, hw]; (first | (with_reducible refine finA hC ?_); clear hC C | (with_reducible refine finD hC ?_); clear hC C)) | ((first | (with_reducible refine gk_tf ?_) | (with_reducible refine gk_ft ?_) | (with_reducible refine gk_u ?_) | (with_reducible refine gk_u' ?_)); first | (intro _ e; (first | rw [put_some] at e | rw [put_none] at e); subst e) | (intro _ _ e e'; (first | rw [put_some] at e | rw [put_none] at e); subst e; subst e')) | ((with_reducible apply awp_cond_g); (focus (simp only [go_sem, encS_len, hw]; exact rfl))) | (with_reducible refine ck_t ?_) | (with_reducible refine ck_f ?_)))
    have tail : ∀ (kn : Bool) (fr : Fr), Ab.get fr 2 = .ptr 0 0 0 → Ab.get fr 3 = .ptr 1 0 0 → Ab.get fr 5 = .pv (sL (nmAt ss id)) → Ab.get fr 6 = .pv (bb kn) →
        (kn = true → ∃ s, 0 ≤ id ∧ ss[id.toNat]? = some s ∧ trAt ss id = (s.kd == 5)) → (kn = false → trAt ss id = false) → K fr [some ⟨false, 70, 3, [[.pv (.list 6 (encS ss)), .pv p, .pv q]], none⟩, some ⟨false, 24, 3, [[.pv (ii k), .pv (ii id), .pv (.list 3 (encL ts))]], none⟩] := by
      intro kn fr g2 g3 g5 g6 hk1 hk0
      rcases kd_cases k with rfl | rfl | rfl | rfl | rfl | rfl | rfl | rfl | rfl | hk
      · exact rt_3 ss p q hM 0 id ts hnL hrec hss (by simp only [ac46, seqR]; exact hK) kn fr g2 g3 g5 g6 hk1 hk0
      · exact rt_4 ss p q hM 0 id ts hnL hrec hss (by simp only [ac46, seqR]; exact hK) kn fr g2 g3 g5 g6 hk1 hk0
      · exact rt_5 ss p q hM 0 id ts hnL hrec hss (by simp only [ac46, seqR]; exact hK) kn fr g2 g3 g5 g6 hk1 hk0
      · exact rt_6 ss p q hM 0 id ts hnL hrec hss (by simp only [ac46, seqR]; exact hK) kn fr g2 g3 g5 g6 hk1 hk0
      · exact rt_2 ss p q hM 0 id ts hnL hrec hss (by simp only [ac46, seqR]; exact hK) kn fr g2 g3 g5 g6 hk1 hk0
      · exact rt_7 ss p q hM 0 id ts hnL hrec hss (by simp only [ac46, seqR]; exact hK) kn fr g2 g3 g5 g6 hk1 hk0
      · exact rt_8 ss p q hM 0 id ts hnL hrec hss (by simp only [ac46, seqR]; exact hK) kn fr g2 g3 g5 g6 hk1 hk0
      · exact rt_9 ss p q hM 0 id ts hnL hrec hss (by simp only [ac46, seqR]; exact hK) kn fr g2 g3 g5 g6 hk1 hk0
      · exact rt_10 ss p q hM 0 id ts hnL hrec hss (by simp only [ac46, seqR]; exact hK) kn fr g2 g3 g5 g6 hk1 hk0
      · exact rt_o ss p q hM k id ts hnL hrec hss hk (by simp only [ac46, seqR]; exact hK) kn fr g2 g3 g5 g6 hk1 hk0
    cases hkn : inRF id 0 ((ss.length : Int) - 1) with
    | true =>
      have hb : 0 ≤ id ∧ id < (ss.length : Int) := by
        unfold inRF at hkn
        split at hkn
        · rename_i h
          have h1 := of_decide_eq_true h
          have h2 := of_decide_eq_true hkn
          omega
        · cases hkn
      obtain ⟨s, h2⟩ : ∃ s, ss[id.toNat]? = some s := ⟨_, List.getElem?_eq_getElem (by omega)⟩
      have hat := encS_get h2
      have hn0 := hb.1
      have hid := hb.2
      have hnm : nmAt ss id = s.nm := by simp [nmAt, show ¬ id < 0 by omega, h2]
      have htr : trAt ss id = (s.kd == 5) := by simp [trAt, show ¬ id < 0 by omega, h2]
      clear hK
      (repeat' (first | ((with_reducible refine aops_cons' fun C hC => ?_); simp only [go_sem, encS_len, hat, hn0, hid, pcells_sy, hkn]; (with_reducible refine finA hC ?_); clear hC C) | ((with_reducible refine aopsD_cons' fun C hC => ?_); simp only [go_sem, encS_len, hat, hn0, hid, pcells_sy, hkn]; (with_reducible refine finD hC ?_); clear hC C) | ((with_reducible refine awp_seq_k fun K hK => ?_)) | ((with_reducible refine awp_reg_k fun K hK => ?_)) | ((with_reducible refine awp_dreg_k fun K hK => ?_)) | ((with_reducible refine aops_nil ?_); (with_reducible refine hK _ _ ?_); try clear hK K) | ((with_reducible refine aopsD_nil ?_); (with_reducible refine hK _ _ _ ?_ ?_); (focus (kernel_rfl)); try clear hK K) | ((with_reducible refine thn_normal ?_); (with_reducible refine hK _ _ ?_); try clear hK K) | ((with_reducible refine catch_normal ?_)) | ((with_reducible refine awp_skip_k ?_)) | ((with_reducible refine awp_ret_k ?_)) | ((with_reducible refine awp_exit_k ?_)) | ((with_reducible refine awp_block_k ?_)) | ((with_reducible refine thn_exit ?_); try clear hK K) | ((with_reducible refine thn_ret ?_); try clear hK K) | ((with_reducible refine catch_ret ?_)) | ((with_reducible refine catch_exit ?_)) | ((with_reducible refine catch_other ?_ ?_); (focus (decide))) | ((with_reducible apply aops_guard'); (focus (simp only [go_sem, encS_len, hat, hn0, hid, pcells_sy, hkn]; exact rfl))) | ((with_reducible apply aopsD_guard'); (focus (simp only [go_sem, encS_len, hat, hn0, hid, pcells_sy, hkn]; exact rfl))) | (first | (with_reducible refine gk_tt ?_) | (with_reducible refine gk_ff ?_)) | ((with_reducible intro C hC); simp only [go_sem, encS_len, hat, hn0, hid, pcells_sy, hkn]; (first | (with_reducible refine finA hC ?_); clear hC C | (with_reducible refine finD hC ?_); clear hC C)) | ((first | (with_reducible refine gk_tf ?_) | (with_reducible refine gk_ft ?_) | (with_reducible refine gk_u ?_) | (with_reducible refine gk_u' ?_)); first | (intro _ e; (first | rw [put_some] at e | rw [put_none] at e); subst e) | (intro _ _ e e'; (first | rw [put_some] at e | rw [put_none] at e); subst e; subst e')) | ((with_reducible apply awp_cond_g); (focus (simp only [go_sem, encS_len, hat, hn0, hid, pcells_sy, hkn]; exact rfl))) | (with_reducible refine ck_t ?_) | (with_reducible refine ck_f ?_)))
      rw [hnm] at tail
      refine thn_normal ?_
      refine tail true _ ?_ ?_ ?_ ?_ (fun _ => ⟨s, hn0, h2, htr⟩) (fun h => by cases h) <;> (first | rfl | exact congrArg (fun x => V.pv (bb x)) hkn)
    | false =>
      have hnb : id < 0 ∨ (ss.length : Int) ≤ id := by
        unfold inRF at hkn
        by_cases h : id < 0
        · exact .inl h
        · rw [if_pos (by simp; omega)] at hkn
          have := of_decide_eq_false hkn
          exact .inr (by omega)
      have hnm : nmAt ss id = [95] := by
        unfold nmAt
        rcases hnb with h | h
        · simp [h]
        · rw [List.getElem?_eq_none (by omega)]; simp
      have htr : trAt ss id = false := by
        unfold trAt
        rcases hnb with h | h
        · simp [h]
        · rw [List.getElem?_eq_none (by omega)]; simp
      clear hK
      (repeat' (first | ((with_reducible refine aops_cons' fun C hC => ?_); simp only [go_sem, encS_len, hkn]; (with_reducible refine finA hC ?_); clear hC C) | ((with_reducible refine aopsD_cons' fun C hC => ?_); simp only [go_sem, encS_len, hkn]; (with_reducible refine finD hC ?_); clear hC C) | ((with_reducible refine awp_seq_k fun K hK => ?_)) | ((with_reducible refine awp_reg_k fun K hK => ?_)) | ((with_reducible refine awp_dreg_k fun K hK => ?_)) | ((with_reducible refine aops_nil ?_); (with_reducible refine hK _ _ ?_); try clear hK K) | ((with_reducible refine aopsD_nil ?_); (with_reducible refine hK _ _ _ ?_ ?_); (focus (kernel_rfl)); try clear hK K) | ((with_reducible refine thn_normal ?_); (with_reducible refine hK _ _ ?_); try clear hK K) | ((with_reducible refine catch_normal ?_)) | ((with_reducible refine awp_skip_k ?_)) | ((with_reducible refine awp_ret_k ?_)) | ((with_reducible refine awp_exit_k ?_)) | ((with_reducible refine awp_block_k ?_)) | ((with_reducible refine thn_exit ?_); try clear hK K) | ((with_reducible refine thn_ret ?_); try clear hK K) | ((with_reducible refine catch_ret ?_)) | ((with_reducible refine catch_exit ?_)) | ((with_reducible refine catch_other ?_ ?_); (focus (decide))) | ((with_reducible apply aops_guard'); (focus (simp only [go_sem, encS_len, hkn]; exact rfl))) | ((with_reducible apply aopsD_guard'); (focus (simp only [go_sem, encS_len, hkn]; exact rfl))) | (first | (with_reducible refine gk_tt ?_) | (with_reducible refine gk_ff ?_)) | ((with_reducible intro C hC); simp only [go_sem, encS_len, hkn]; (first | (with_reducible refine finA hC ?_); clear hC C | (with_reducible refine finD hC ?_); clear hC C)) | ((first | (with_reducible refine gk_tf ?_) | (with_reducible refine gk_ft ?_) | (with_reducible refine gk_u ?_) | (with_reducible refine gk_u' ?_)); first | (intro _ e; (first | rw [put_some] at e | rw [put_none] at e); subst e) | (intro _ _ e e'; (first | rw [put_some] at e | rw [put_none] at e); subst e; subst e')) | ((with_reducible apply awp_cond_g); (focus (simp only [go_sem, encS_len, hkn]; exact rfl))) | (with_reducible refine ck_t ?_) | (with_reducible refine ck_f ?_)))
      rw [hnm] at tail
      refine thn_normal ?_
      refine tail false _ ?_ ?_ ?_ ?_ (fun h => by cases h) (fun _ => htr) <;> (first | rfl | exact congrArg (fun x => V.pv (bb x)) hkn)
termination_by t => SizeOf.sizeOf t
decreasing_by
  have := List.sizeOf_lt_of_mem ht
  simp only [Ty.mk.sizeOf_spec]; omega
end Go.Proofs.Ytgphapkpoamcgaa
