/- B5: joined from ZU5. -/
import Derived.Test.YtiediojibljpiaaVFnU
import Derived.Test.YtiediojibljpiaaVB4
/- WithinLimits; types.Map over objects; Resolve. -/
set_option maxRecDepth 10000
set_option linter.unusedSimpArgs false
set_option linter.unusedVariables false
namespace Go.Proofs.Ytiediojibljpiaa
open Go Go.Ab
mutual
theorem dpw_eq : ∀ t : Ty, nds t ≤ 100 → dpw t = dp t
  | .mk k id ss, h => by
    simp only [nds] at h
    have h1 := dpwL_eq ss 0 (by omega)
    have h2 := dp_bd (.mk k id ss)
    simp only [nds, dp] at h2
    simp only [dpw, dp, h1]
    exact wrapR (by omega) (by omega)
theorem dpwL_eq : ∀ (ts : List Ty) (d : Int), ndsL ts ≤ 100 → dpwL ts d = dpL ts d
  | [], d, _ => rfl
  | t :: ts, d, h => by
    simp only [ndsL] at h
    simp only [dpwL, dpL, dpw_eq t (by omega)]
    exact dpwL_eq ts _ (by omega)
end
def limT (u : Ty) : Bool := if decide (nds u ≤ 100) then decide (dp u ≤ 12) else false
set_option maxHeartbeats 1000000 in
theorem within_ok {s m : Nat} {p : Int} {L : SB} {σ : Ty → Ty} (hσ : Sg L σ) {O : OS} (hS : SolO O s m p L) {t : Ty} (hg : good t) :
    OCall Try.prog 34 [pS s, t.enc] O (OIs (bb (limT (σ t))) O) := by
  refine OCall.intro fn34 (by simp) ?_
  unfold ac34
  simp only [argFr]
  obtain ⟨n, r, hr⟩ := hσ.hd t hg
  have hne : ∀ k, O k = none → k ≠ s ∧ k ≠ m := fun k hk => ⟨fun e => (by rw [e, hS.1] at hk; cases hk), fun e => (by rw [e, hS.2] at hk; cases hk)⟩
  (repeat' (first|((with_reducible refine aopsO_mkmapO fun km fm=>?_))|((with_reducible refine aopsO_cons' fun C hC=>?_);simp only [go_sem, cells_enc, pcells_enc, enc_eq, Ty.tc];((with_reducible refine finO hC ?_);clear hC C))|((with_reducible refine aopsO_ob' fun C hC=>?_);simp only [go_sem, cells_enc, pcells_enc, enc_eq, Ty.tc];((with_reducible refine finOb hC ?_);clear hC C))|((with_reducible refine aopsDO_cons' fun C hC=>?_);simp only [go_sem, cells_enc, pcells_enc, enc_eq, Ty.tc];((with_reducible refine finDO hC ?_);clear hC C))|((with_reducible refine aopsDO_ob' ?_ fun C hC=>?_);(focus rfl);simp only [go_sem, cells_enc, pcells_enc, enc_eq, Ty.tc];((with_reducible refine finDOb hC ?_);clear hC C))|(with_reducible first|refine awpO_seq_k fun K hK=>?_|refine awpO_reg_k fun K hK=>?_|refine awpO_dreg_k fun K hK=>?_|(refine aopsO_nil ?_;refine hK _ _ _ ?_;try clear hK K)|(refine aopsDO_nil ?_;refine hK _ _ _ _ ?_ ?_;(focus kernel_rfl);try clear hK K)|(refine thnO_normal ?_;refine hK _ _ _ ?_;try clear hK K)|refine catchO_normal ?_|refine awpO_skip_k ?_|refine awpO_ret_k ?_|refine awpO_exit_k ?_|refine awpO_block_k ?_|(refine thnO_exit ?_;try clear hK K)|(refine thnO_ret ?_;try clear hK K)|refine catchO_ret ?_|refine catchO_exit ?_|(refine catchO_other ?_ ?_;focus decide))|((with_reducible first|apply aopsO_guard'|apply aopsDO_guard'|apply awpO_cond_g);focus (simp only [go_sem, cells_enc, pcells_enc, enc_eq, Ty.tc];exact rfl))|(with_reducible first|refine gk_tt ?_|refine gk_ff ?_|refine ck_t ?_|refine ck_f ?_)|((with_reducible first|refine gk_tf ?_|refine gk_ft ?_|refine gk_u ?_|refine gk_u' ?_);first|(intro _ e;(first|rw [qqY] at e|rw [qqZ] at e);subst e)|(intro _ _ e e';(first|rw [qqY] at e|rw [qqZ] at e);subst e;subst e'))))
  have hc := ext_ok hσ hS (hne km fm).1 (hne km fm).2 (nds (σ t)) n t r [] hg (Nat.le_refl _) hr (fun x hx => by cases hx)
  refine aopsO_call0 hc ?_ ?_ ?_
  · simp only [go_sem]
  · simp only [go_sem, enc_eq]
  rintro _ _ _ ⟨E2, hE2, rfl, rfl⟩ e
  rw [qqY] at e
  subst e
  by_cases h : nds (σ t) ≤ 100
  · have h1 : decide (sat (nds (σ t) : Nat) ≤ 100) = true := by unfold sat; split <;> simp <;> omega
    have hw : limT (σ t) = decide (dpw (σ t) ≤ 12) := by unfold limT; rw [dpw_eq _ h]; simp [h]
    (repeat' (first|((with_reducible refine aopsO_cons' fun C hC=>?_);simp only [go_sem, exA, h1];((with_reducible refine finO hC ?_);clear hC C))|((with_reducible refine aopsO_ob' fun C hC=>?_);simp only [go_sem, exA, h1];((with_reducible refine finOb hC ?_);clear hC C))|((with_reducible refine aopsDO_cons' fun C hC=>?_);simp only [go_sem, exA, h1];((with_reducible refine finDO hC ?_);clear hC C))|((with_reducible refine aopsDO_ob' ?_ fun C hC=>?_);(focus rfl);simp only [go_sem, exA, h1];((with_reducible refine finDOb hC ?_);clear hC C))|(with_reducible first|refine awpO_seq_k fun K hK=>?_|refine awpO_reg_k fun K hK=>?_|refine awpO_dreg_k fun K hK=>?_|(refine aopsO_nil ?_;refine hK _ _ _ ?_;try clear hK K)|(refine aopsDO_nil ?_;refine hK _ _ _ _ ?_ ?_;(focus kernel_rfl);try clear hK K)|(refine thnO_normal ?_;refine hK _ _ _ ?_;try clear hK K)|refine catchO_normal ?_|refine awpO_skip_k ?_|refine awpO_ret_k ?_|refine awpO_exit_k ?_|refine awpO_block_k ?_|(refine thnO_exit ?_;try clear hK K)|(refine thnO_ret ?_;try clear hK K)|refine catchO_ret ?_|refine catchO_exit ?_|(refine catchO_other ?_ ?_;focus decide))|((with_reducible first|apply aopsO_guard'|apply aopsDO_guard'|apply awpO_cond_g);focus (simp only [go_sem, exA, h1];exact rfl))|(with_reducible first|refine gk_tt ?_|refine gk_ff ?_|refine ck_t ?_|refine ck_f ?_)|((with_reducible first|refine gk_tf ?_|refine gk_ft ?_|refine gk_u ?_|refine gk_u' ?_);first|(intro _ e;(first|rw [qqY] at e|rw [qqZ] at e);subst e)|(intro _ _ e e';(first|rw [qqY] at e|rw [qqZ] at e);subst e;subst e'))))
    rw [hw]
    (refine retPO_1 (List.range 40) rfl ?_ (OLe.fresh fm); exact vwA)
  · have h1 : decide (sat (nds (σ t) : Nat) ≤ 100) = false := by unfold sat; split <;> simp <;> omega
    have hw : limT (σ t) = false := by unfold limT; simp [h]
    (repeat' (first|((with_reducible refine aopsO_cons' fun C hC=>?_);simp only [go_sem, exA, h1];((with_reducible refine finO hC ?_);clear hC C))|((with_reducible refine aopsO_ob' fun C hC=>?_);simp only [go_sem, exA, h1];((with_reducible refine finOb hC ?_);clear hC C))|((with_reducible refine aopsDO_cons' fun C hC=>?_);simp only [go_sem, exA, h1];((with_reducible refine finDO hC ?_);clear hC C))|((with_reducible refine aopsDO_ob' ?_ fun C hC=>?_);(focus rfl);simp only [go_sem, exA, h1];((with_reducible refine finDOb hC ?_);clear hC C))|(with_reducible first|refine awpO_seq_k fun K hK=>?_|refine awpO_reg_k fun K hK=>?_|refine awpO_dreg_k fun K hK=>?_|(refine aopsO_nil ?_;refine hK _ _ _ ?_;try clear hK K)|(refine aopsDO_nil ?_;refine hK _ _ _ _ ?_ ?_;(focus kernel_rfl);try clear hK K)|(refine thnO_normal ?_;refine hK _ _ _ ?_;try clear hK K)|refine catchO_normal ?_|refine awpO_skip_k ?_|refine awpO_ret_k ?_|refine awpO_exit_k ?_|refine awpO_block_k ?_|(refine thnO_exit ?_;try clear hK K)|(refine thnO_ret ?_;try clear hK K)|refine catchO_ret ?_|refine catchO_exit ?_|(refine catchO_other ?_ ?_;focus decide))|((with_reducible first|apply aopsO_guard'|apply aopsDO_guard'|apply awpO_cond_g);focus (simp only [go_sem, exA, h1];exact rfl))|(with_reducible first|refine gk_tt ?_|refine gk_ff ?_|refine ck_t ?_|refine ck_f ?_)|((with_reducible first|refine gk_tf ?_|refine gk_ft ?_|refine gk_u ?_|refine gk_u' ?_);first|(intro _ e;(first|rw [qqY] at e|rw [qqZ] at e);subst e)|(intro _ _ e e';(first|rw [qqY] at e|rw [qqZ] at e);subst e;subst e'))))
    rw [hw]
    (refine retPO_1 (List.range 40) rfl ?_ (OLe.fresh fm); exact vwA)
set_option maxHeartbeats 4000000 in
theorem mapO_ok (fid : FuncId) (caps : List PV) (g : Ty → Ty × Bool) (O : OS) (P : Ty → Prop) (hP : ∀ t, P t → (g t).2 = false → ∀ a ∈ t.args, P a) (hg : ∀ t, P t → OCall Try.prog fid ([Ty.enc t] ++ caps) O (OIs (.tup [(g t).1.enc, .lit (.bool (g t).2)]) O)) : ∀ (t : Ty), P t →
    OCall Try.prog 51 [t.enc, .fn fid caps] O (OIs (mapT g t).enc O)
  | .mk k id ss, hp => by
    have hrec : (g (.mk k id ss)).2 = false → ∀ t ∈ ss, OCall Try.prog 51 [t.enc, .fn fid caps] O (OIs (mapT g t).enc O) := fun h t ht => mapO_ok fid caps g O P hP hg t (hP _ hp h t ht)
    refine OCall.intro' fn51 (by simp) fun hok => ?_
    have hss : ss.length ≤ 1099511627776 := by
      simp only [PV.okL, Ty.enc, PV.ok, encL_len, big] at hok; exact hok.1.2.2.1.1
    clear hok
    have h0 := hg (.mk k id ss) hp
    unfold ac51
    simp only [argFr, Ty.enc, Nat.zero_add] at h0 ⊢
    cases hgt : (g (.mk k id ss)).2 with
    | true =>
      rw [hgt] at h0
      (repeat' (first|((with_reducible refine aopsO_call0 (h0) ?_ ?_ ?_);(focus (simp only [go_sem, enc_eq, cells_enc, pcells_enc];done));(focus (simp only [go_sem, enc_eq, cells_enc, pcells_enc];done));rintro _ _ _ ⟨rfl, e2⟩ e;(replace e2 := Eq.symm e2;subst e2);(first|rw [qqY] at e|rw [qqZ] at e);subst e)|((with_reducible refine aopsDO_call0 (h0) ?_ ?_ ?_);(focus (simp only [go_sem, enc_eq, cells_enc, pcells_enc];done));(focus (simp only [go_sem, enc_eq, cells_enc, pcells_enc];done));intro _ _ e e';(first|rw [qqY] at e|rw [qqZ] at e);subst e;subst e')|((with_reducible refine aopsO_callX (h0) ?_ ?_ ?_);(focus (simp only [go_sem, enc_eq, cells_enc, pcells_enc];done));(focus (simp only [go_sem, enc_eq, cells_enc, pcells_enc];done));rintro _ _ _ ⟨rfl, e2⟩ e;(replace e2 := Eq.symm e2;subst e2);(first|rw [qqY] at e|rw [qqZ] at e);subst e)|((with_reducible refine aopsO_cons' fun C hC=>?_);simp only [go_sem, enc_eq, cells_enc, pcells_enc];((with_reducible refine finO hC ?_);clear hC C))|((with_reducible refine aopsO_ob' fun C hC=>?_);simp only [go_sem, enc_eq, cells_enc, pcells_enc];((with_reducible refine finOb hC ?_);clear hC C))|((with_reducible refine aopsDO_cons' fun C hC=>?_);simp only [go_sem, enc_eq, cells_enc, pcells_enc];((with_reducible refine finDO hC ?_);clear hC C))|((with_reducible refine aopsDO_ob' ?_ fun C hC=>?_);(focus rfl);simp only [go_sem, enc_eq, cells_enc, pcells_enc];((with_reducible refine finDOb hC ?_);clear hC C))|(with_reducible first|refine awpO_seq_k fun K hK=>?_|refine awpO_reg_k fun K hK=>?_|refine awpO_dreg_k fun K hK=>?_|(refine aopsO_nil ?_;refine hK _ _ _ ?_;try clear hK K)|(refine aopsDO_nil ?_;refine hK _ _ _ _ ?_ ?_;(focus kernel_rfl);try clear hK K)|(refine thnO_normal ?_;refine hK _ _ _ ?_;try clear hK K)|refine catchO_normal ?_|refine awpO_skip_k ?_|refine awpO_ret_k ?_|refine awpO_exit_k ?_|refine awpO_block_k ?_|(refine thnO_exit ?_;try clear hK K)|(refine thnO_ret ?_;try clear hK K)|refine catchO_ret ?_|refine catchO_exit ?_|(refine catchO_other ?_ ?_;focus decide))|((with_reducible first|apply aopsO_guard'|apply aopsDO_guard'|apply awpO_cond_g);focus (simp only [go_sem, enc_eq, cells_enc, pcells_enc];exact rfl))|(with_reducible first|refine gk_tt ?_|refine gk_ff ?_|refine ck_t ?_|refine ck_f ?_)|((with_reducible first|refine gk_tf ?_|refine gk_ft ?_|refine gk_u ?_|refine gk_u' ?_);first|(intro _ e;(first|rw [qqY] at e|rw [qqZ] at e);subst e)|(intro _ _ e e';(first|rw [qqY] at e|rw [qqZ] at e);subst e;subst e'))))
      (refine retPO_1 (List.range 40) rfl ?_ (OLe.refl _))
      simp only [mapT, hgt, if_true, enc_eq]
      exact vwA
    | false =>
      rw [hgt] at h0
      have hrec := hrec hgt
      (repeat' (first|((with_reducible refine aopsO_call0 (h0) ?_ ?_ ?_);(focus (simp only [go_sem, enc_eq, cells_enc, pcells_enc, encL_len];done));(focus (simp only [go_sem, enc_eq, cells_enc, pcells_enc, encL_len];done));rintro _ _ _ ⟨rfl, e2⟩ e;(replace e2 := Eq.symm e2;subst e2);(first|rw [qqY] at e|rw [qqZ] at e);subst e)|((with_reducible refine aopsDO_call0 (h0) ?_ ?_ ?_);(focus (simp only [go_sem, enc_eq, cells_enc, pcells_enc, encL_len];done));(focus (simp only [go_sem, enc_eq, cells_enc, pcells_enc, encL_len];done));intro _ _ e e';(first|rw [qqY] at e|rw [qqZ] at e);subst e;subst e')|((with_reducible refine aopsO_callX (h0) ?_ ?_ ?_);(focus (simp only [go_sem, enc_eq, cells_enc, pcells_enc, encL_len];done));(focus (simp only [go_sem, enc_eq, cells_enc, pcells_enc, encL_len];done));rintro _ _ _ ⟨rfl, e2⟩ e;(replace e2 := Eq.symm e2;subst e2);(first|rw [qqY] at e|rw [qqZ] at e);subst e)|((with_reducible refine aopsO_cons' fun C hC=>?_);simp only [go_sem, enc_eq, cells_enc, pcells_enc, encL_len];((with_reducible refine finO hC ?_);clear hC C))|((with_reducible refine aopsO_ob' fun C hC=>?_);simp only [go_sem, enc_eq, cells_enc, pcells_enc, encL_len];((with_reducible refine finOb hC ?_);clear hC C))|((with_reducible refine aopsDO_cons' fun C hC=>?_);simp only [go_sem, enc_eq, cells_enc, pcells_enc, encL_len];((with_reducible refine finDO hC ?_);clear hC C))|((with_reducible refine aopsDO_ob' ?_ fun C hC=>?_);(focus rfl);simp only [go_sem, enc_eq, cells_enc, pcells_enc, encL_len];((with_reducible refine finDOb hC ?_);clear hC C))|(with_reducible first|refine awpO_seq_k fun K hK=>?_|refine awpO_reg_k fun K hK=>?_|refine awpO_dreg_k fun K hK=>?_|(refine aopsO_nil ?_;refine hK _ _ _ ?_;try clear hK K)|(refine aopsDO_nil ?_;refine hK _ _ _ _ ?_ ?_;(focus kernel_rfl);try clear hK K)|(refine thnO_normal ?_;refine hK _ _ _ ?_;try clear hK K)|refine catchO_normal ?_|refine awpO_skip_k ?_|refine awpO_ret_k ?_|refine awpO_exit_k ?_|refine awpO_block_k ?_|(refine thnO_exit ?_;try clear hK K)|(refine thnO_ret ?_;try clear hK K)|refine catchO_ret ?_|refine catchO_exit ?_|(refine catchO_other ?_ ?_;focus decide))|((with_reducible first|apply aopsO_guard'|apply aopsDO_guard'|apply awpO_cond_g);focus (simp only [go_sem, enc_eq, cells_enc, pcells_enc, encL_len];exact rfl))|(with_reducible first|refine gk_tt ?_|refine gk_ff ?_|refine ck_t ?_|refine ck_f ?_)|((with_reducible first|refine gk_tf ?_|refine gk_ft ?_|refine gk_u ?_|refine gk_u' ?_);first|(intro _ e;(first|rw [qqY] at e|rw [qqZ] at e);subst e)|(intro _ _ e e';(first|rw [qqY] at e|rw [qqZ] at e);subst e;subst e'))))
      have rows : ∀ (rest pre : List Ty), pre ++ rest = ss → loopNO (awpO Try.prog ac51_l0) (catchO 0 (thnO K (retPO [RV.cell 4 3 true] (OIs (mapT g (.mk k id ss)).enc O)))) (rest.length + 1)
         [(26, .pv (ii pre.length)), (25, .pv (ii ss.length)), (24, .pv (.list 3 (encL ss))), (7, .ptr 1 0 0), (4, .ptr 0 0 0), (1, .pv (.fn fid caps))]
         [some ⟨false, 29, 3, [[.pv (ii 0), .pv (ii 0), .pv (.lit (.slice none 0 0))]], none⟩, some ⟨false, 29, 3, [[.pv (ii k), .pv (ii id), .row 2 pre.length false]], none⟩,
          some ⟨false, 29, 3, (mapTL g pre).map Ty.tc, none⟩] O := by
        intro rest
        induction rest with
        | nil =>
          intro pre hpre
          have hpre : pre = ss := by simpa using hpre
          subst hpre
          refine loopNO_k fun K1 hK1 => ?_
          unfold ac51_l0
          (repeat' (first|((with_reducible refine aopsO_cons' fun C hC=>?_);simp only [go_sem, lt_end];((with_reducible refine finO hC ?_);clear hC C))|((with_reducible refine aopsO_ob' fun C hC=>?_);simp only [go_sem, lt_end];((with_reducible refine finOb hC ?_);clear hC C))|((with_reducible refine aopsDO_cons' fun C hC=>?_);simp only [go_sem, lt_end];((with_reducible refine finDO hC ?_);clear hC C))|((with_reducible refine aopsDO_ob' ?_ fun C hC=>?_);(focus rfl);simp only [go_sem, lt_end];((with_reducible refine finDOb hC ?_);clear hC C))|(with_reducible first|refine awpO_seq_k fun K hK=>?_|refine awpO_reg_k fun K hK=>?_|refine awpO_dreg_k fun K hK=>?_|(refine aopsO_nil ?_;refine hK _ _ _ ?_;try clear hK K)|(refine aopsDO_nil ?_;refine hK _ _ _ _ ?_ ?_;(focus kernel_rfl);try clear hK K)|(refine thnO_normal ?_;refine hK _ _ _ ?_;try clear hK K)|refine catchO_normal ?_|refine awpO_skip_k ?_|refine awpO_ret_k ?_|refine awpO_exit_k ?_|refine awpO_block_k ?_|(refine thnO_exit ?_;try clear hK K)|(refine thnO_ret ?_;try clear hK K)|refine catchO_ret ?_|refine catchO_exit ?_|(refine catchO_other ?_ ?_;focus decide))|((with_reducible first|apply aopsO_guard'|apply aopsDO_guard'|apply awpO_cond_g);focus (simp only [go_sem, lt_end];exact rfl))|(with_reducible first|refine gk_tt ?_|refine gk_ff ?_|refine ck_t ?_|refine ck_f ?_)|((with_reducible first|refine gk_tf ?_|refine gk_ft ?_|refine gk_u ?_|refine gk_u' ?_);first|(intro _ e;(first|rw [qqY] at e|rw [qqZ] at e);subst e)|(intro _ _ e e';(first|rw [qqY] at e|rw [qqZ] at e);subst e;subst e'))))
          refine retPO_ret (ps := [(mapT g (.mk k id pre)).enc]) [2] rfl (.cons _ _ _ _ ?_ .nil) (OLe.refl _) ⟨rfl, rfl⟩
          rw [mapT, hgt, enc_eq]
          refine .agg _ _ (.cons _ _ _ _ (.pv _) (.cons _ _ _ _ (.pv _) (.cons _ _ _ _ ?_ .nil)))
          exact row_view (by simp) rfl (by simp [mapTL_len]) (VwE_tc _)
        | cons t rest ih =>
          intro pre hpre
          have hlt : decide ((pre.length : Int) < (ss.length : Int)) = true := by subst hpre; exact lt_app _ _ _
          have hat : (encL ss)[pre.length]? = some t.enc := by subst hpre; exact encL_at _ _ _
          have hb : pre.length + 1 ≤ big := by have := congrArg List.length hpre; simp at this; unfold big; omega
          have hc := hrec t (by subst hpre; simp)
          refine loopNO_k fun K1 hK1 => ?_
          unfold ac51_l0
          (repeat' (first|((with_reducible refine aopsO_call0 (hc) ?_ ?_ ?_);(focus (simp only [go_sem, hlt, hat, cells_enc, pcells_enc, enc_eq, tc_len, List.length_map, mapTL_len, hb];done));(focus (simp only [go_sem, hlt, hat, cells_enc, pcells_enc, enc_eq, tc_len, List.length_map, mapTL_len, hb];done));rintro _ _ _ ⟨rfl, e2⟩ e;(replace e2 := Eq.symm e2;subst e2);(first|rw [qqY] at e|rw [qqZ] at e);subst e)|((with_reducible refine aopsDO_call0 (hc) ?_ ?_ ?_);(focus (simp only [go_sem, hlt, hat, cells_enc, pcells_enc, enc_eq, tc_len, List.length_map, mapTL_len, hb];done));(focus (simp only [go_sem, hlt, hat, cells_enc, pcells_enc, enc_eq, tc_len, List.length_map, mapTL_len, hb];done));intro _ _ e e';(first|rw [qqY] at e|rw [qqZ] at e);subst e;subst e')|((with_reducible refine aopsO_callX (hc) ?_ ?_ ?_);(focus (simp only [go_sem, hlt, hat, cells_enc, pcells_enc, enc_eq, tc_len, List.length_map, mapTL_len, hb];done));(focus (simp only [go_sem, hlt, hat, cells_enc, pcells_enc, enc_eq, tc_len, List.length_map, mapTL_len, hb];done));rintro _ _ _ ⟨rfl, e2⟩ e;(replace e2 := Eq.symm e2;subst e2);(first|rw [qqY] at e|rw [qqZ] at e);subst e)|((with_reducible refine aopsO_cons' fun C hC=>?_);simp only [go_sem, hlt, hat, cells_enc, pcells_enc, enc_eq, tc_len, List.length_map, mapTL_len, hb];((with_reducible refine finO hC ?_);clear hC C))|((with_reducible refine aopsO_ob' fun C hC=>?_);simp only [go_sem, hlt, hat, cells_enc, pcells_enc, enc_eq, tc_len, List.length_map, mapTL_len, hb];((with_reducible refine finOb hC ?_);clear hC C))|((with_reducible refine aopsDO_cons' fun C hC=>?_);simp only [go_sem, hlt, hat, cells_enc, pcells_enc, enc_eq, tc_len, List.length_map, mapTL_len, hb];((with_reducible refine finDO hC ?_);clear hC C))|((with_reducible refine aopsDO_ob' ?_ fun C hC=>?_);(focus rfl);simp only [go_sem, hlt, hat, cells_enc, pcells_enc, enc_eq, tc_len, List.length_map, mapTL_len, hb];((with_reducible refine finDOb hC ?_);clear hC C))|(with_reducible first|refine awpO_seq_k fun K hK=>?_|refine awpO_reg_k fun K hK=>?_|refine awpO_dreg_k fun K hK=>?_|(refine aopsO_nil ?_;refine hK _ _ _ ?_;try clear hK K)|(refine aopsDO_nil ?_;refine hK _ _ _ _ ?_ ?_;(focus kernel_rfl);try clear hK K)|(refine thnO_normal ?_;refine hK _ _ _ ?_;try clear hK K)|refine catchO_normal ?_|refine awpO_skip_k ?_|refine awpO_ret_k ?_|refine awpO_exit_k ?_|refine awpO_block_k ?_|(refine thnO_exit ?_;try clear hK K)|(refine thnO_ret ?_;try clear hK K)|refine catchO_ret ?_|refine catchO_exit ?_|(refine catchO_other ?_ ?_;focus decide))|((with_reducible first|apply aopsO_guard'|apply aopsDO_guard'|apply awpO_cond_g);focus (simp only [go_sem, hlt, hat, cells_enc, pcells_enc, enc_eq, tc_len, List.length_map, mapTL_len, hb];exact rfl))|(with_reducible first|refine gk_tt ?_|refine gk_ff ?_|refine ck_t ?_|refine ck_f ?_)|((with_reducible first|refine gk_tf ?_|refine gk_ft ?_|refine gk_u ?_|refine gk_u' ?_);first|(intro _ e;(first|rw [qqY] at e|rw [qqZ] at e);subst e)|(intro _ _ e e';(first|rw [qqY] at e|rw [qqZ] at e);subst e;subst e'))))
          have hw := wrapS (n := pre.length) (by unfold big at hb; omega)
          refine hK1 _ _ _ _ _ _ _ (LeB [0, 1, 10] (by refine ⟨?_, ?_, ?_⟩ <;> simp only [leFr, leFb, leHp, V.ren, V.renL, V.bd, V.bdL, allL, lt, Go.Ab.get, hget, List.map_cons, List.map_nil, List.length_cons, List.length_nil, List.length_append, List.getElem?_cons_zero, List.getElem?_cons_succ, List.getElem?_nil, Option.join_some, Option.join_none, List.getD_cons_zero, List.getD_cons_succ, List.getD_nil, Nat.reduceAdd, Nat.reduceLT, Nat.reduceEqDiff, Nat.zero_add, reduceIte, if_true, if_false, and_true, true_and, renL_vcells, allL_vcells, renL_pv, leBlk_some, eq_self, true_or, or_true, reduceCtorEq, false_or, hw, mapTL_app, mapTL, List.map_append, renL_tc, renL_tc1, allL_tc, allL_app, bdL_tc, allL, Ty.tc])) (OLe.refl _) (ih (pre ++ [t]) (by simp [hpre]))
      have first : loopNO (awpO Try.prog ac51_l0) (catchO 0 (thnO K (retPO [RV.cell 4 3 true] (OIs (mapT g (.mk k id ss)).enc O)))) (ss.length + 1)
         [(26, .pv (ii 0)), (25, .pv (ii ss.length)), (24, .pv (.list 3 (encL ss))), (7, .ptr 1 0 0), (4, .ptr 0 0 0), (1, .pv (.fn fid caps))]
         [some ⟨false, 29, 3, [[.pv (ii 0), .pv (ii 0), .pv (.lit (.slice none 0 0))]], none⟩, some ⟨false, 29, 3, [[.pv (ii k), .pv (ii id), .pv (.lit (.slice none 0 0))]], none⟩] O := by
        refine loopNO_k fun K1 hK1 => ?_
        unfold ac51_l0
        cases hs : ss with
        | nil =>
          subst hs
          (repeat' (first|((with_reducible refine aopsO_cons' fun C hC=>?_);simp only [go_sem, lt_zero];((with_reducible refine finO hC ?_);clear hC C))|((with_reducible refine aopsO_ob' fun C hC=>?_);simp only [go_sem, lt_zero];((with_reducible refine finOb hC ?_);clear hC C))|((with_reducible refine aopsDO_cons' fun C hC=>?_);simp only [go_sem, lt_zero];((with_reducible refine finDO hC ?_);clear hC C))|((with_reducible refine aopsDO_ob' ?_ fun C hC=>?_);(focus rfl);simp only [go_sem, lt_zero];((with_reducible refine finDOb hC ?_);clear hC C))|(with_reducible first|refine awpO_seq_k fun K hK=>?_|refine awpO_reg_k fun K hK=>?_|refine awpO_dreg_k fun K hK=>?_|(refine aopsO_nil ?_;refine hK _ _ _ ?_;try clear hK K)|(refine aopsDO_nil ?_;refine hK _ _ _ _ ?_ ?_;(focus kernel_rfl);try clear hK K)|(refine thnO_normal ?_;refine hK _ _ _ ?_;try clear hK K)|refine catchO_normal ?_|refine awpO_skip_k ?_|refine awpO_ret_k ?_|refine awpO_exit_k ?_|refine awpO_block_k ?_|(refine thnO_exit ?_;try clear hK K)|(refine thnO_ret ?_;try clear hK K)|refine catchO_ret ?_|refine catchO_exit ?_|(refine catchO_other ?_ ?_;focus decide))|((with_reducible first|apply aopsO_guard'|apply aopsDO_guard'|apply awpO_cond_g);focus (simp only [go_sem, lt_zero];exact rfl))|(with_reducible first|refine gk_tt ?_|refine gk_ff ?_|refine ck_t ?_|refine ck_f ?_)|((with_reducible first|refine gk_tf ?_|refine gk_ft ?_|refine gk_u ?_|refine gk_u' ?_);first|(intro _ e;(first|rw [qqY] at e|rw [qqZ] at e);subst e)|(intro _ _ e e';(first|rw [qqY] at e|rw [qqZ] at e);subst e;subst e'))))
          refine retPO_ret (ps := [(mapT g (.mk k id [])).enc]) [] rfl (.cons _ _ _ _ ?_ .nil) (OLe.refl _) ⟨rfl, rfl⟩
          rw [mapT, hgt, enc_eq]
          exact .agg _ _ (.cons _ _ _ _ (.pv _) (.cons _ _ _ _ (.pv _) (.cons _ _ _ _ Vw_nil .nil)))
        | cons t rest =>
          subst hs
          have lt0 : decide ((0 : Int) < ((t :: rest).length : Int)) = true := by simp
          have hc := hrec t (by simp)
          (repeat' (first|((with_reducible refine aopsO_call0 (hc) ?_ ?_ ?_);(focus (simp only [go_sem, lt0, encL, cells_enc, pcells_enc, enc_eq, tc_len, List.length_map, mapTL_len];done));(focus (simp only [go_sem, lt0, encL, cells_enc, pcells_enc, enc_eq, tc_len, List.length_map, mapTL_len];done));rintro _ _ _ ⟨rfl, e2⟩ e;(replace e2 := Eq.symm e2;subst e2);(first|rw [qqY] at e|rw [qqZ] at e);subst e)|((with_reducible refine aopsDO_call0 (hc) ?_ ?_ ?_);(focus (simp only [go_sem, lt0, encL, cells_enc, pcells_enc, enc_eq, tc_len, List.length_map, mapTL_len];done));(focus (simp only [go_sem, lt0, encL, cells_enc, pcells_enc, enc_eq, tc_len, List.length_map, mapTL_len];done));intro _ _ e e';(first|rw [qqY] at e|rw [qqZ] at e);subst e;subst e')|((with_reducible refine aopsO_callX (hc) ?_ ?_ ?_);(focus (simp only [go_sem, lt0, encL, cells_enc, pcells_enc, enc_eq, tc_len, List.length_map, mapTL_len];done));(focus (simp only [go_sem, lt0, encL, cells_enc, pcells_enc, enc_eq, tc_len, List.length_map, mapTL_len];done));rintro _ _ _ ⟨rfl, e2⟩ e;(replace e2 := Eq.symm e2;subst e2);(first|rw [qqY] at e|rw [qqZ] at e);subst e)|((with_reducible refine aopsO_cons' fun C hC=>?_);simp only [go_sem, lt0, encL, cells_enc, pcells_enc, enc_eq, tc_len, List.length_map, mapTL_len];((with_reducible refine finO hC ?_);clear hC C))|((with_reducible refine aopsO_ob' fun C hC=>?_);simp only [go_sem, lt0, encL, cells_enc, pcells_enc, enc_eq, tc_len, List.length_map, mapTL_len];((with_reducible refine finOb hC ?_);clear hC C))|((with_reducible refine aopsDO_cons' fun C hC=>?_);simp only [go_sem, lt0, encL, cells_enc, pcells_enc, enc_eq, tc_len, List.length_map, mapTL_len];((with_reducible refine finDO hC ?_);clear hC C))|((with_reducible refine aopsDO_ob' ?_ fun C hC=>?_);(focus rfl);simp only [go_sem, lt0, encL, cells_enc, pcells_enc, enc_eq, tc_len, List.length_map, mapTL_len];((with_reducible refine finDOb hC ?_);clear hC C))|(with_reducible first|refine awpO_seq_k fun K hK=>?_|refine awpO_reg_k fun K hK=>?_|refine awpO_dreg_k fun K hK=>?_|(refine aopsO_nil ?_;refine hK _ _ _ ?_;try clear hK K)|(refine aopsDO_nil ?_;refine hK _ _ _ _ ?_ ?_;(focus kernel_rfl);try clear hK K)|(refine thnO_normal ?_;refine hK _ _ _ ?_;try clear hK K)|refine catchO_normal ?_|refine awpO_skip_k ?_|refine awpO_ret_k ?_|refine awpO_exit_k ?_|refine awpO_block_k ?_|(refine thnO_exit ?_;try clear hK K)|(refine thnO_ret ?_;try clear hK K)|refine catchO_ret ?_|refine catchO_exit ?_|(refine catchO_other ?_ ?_;focus decide))|((with_reducible first|apply aopsO_guard'|apply aopsDO_guard'|apply awpO_cond_g);focus (simp only [go_sem, lt0, encL, cells_enc, pcells_enc, enc_eq, tc_len, List.length_map, mapTL_len];exact rfl))|(with_reducible first|refine gk_tt ?_|refine gk_ff ?_|refine ck_t ?_|refine ck_f ?_)|((with_reducible first|refine gk_tf ?_|refine gk_ft ?_|refine gk_u ?_|refine gk_u' ?_);first|(intro _ e;(first|rw [qqY] at e|rw [qqZ] at e);subst e)|(intro _ _ e e';(first|rw [qqY] at e|rw [qqZ] at e);subst e;subst e'))))
          refine hK1 _ _ _ _ _ _ _ (LeB [0, 1, 9] (by refine ⟨?_, ?_, ?_⟩ <;> simp only [leFr, leFb, leHp, V.ren, V.renL, V.bd, V.bdL, allL, lt, Go.Ab.get, hget, List.map_cons, List.map_nil, List.length_cons, List.length_nil, List.length_append, List.getElem?_cons_zero, List.getElem?_cons_succ, List.getElem?_nil, Option.join_some, Option.join_none, List.getD_cons_zero, List.getD_cons_succ, List.getD_nil, Nat.reduceAdd, Nat.reduceLT, Nat.reduceEqDiff, Nat.zero_add, reduceIte, if_true, if_false, and_true, true_and, renL_vcells, allL_vcells, renL_pv, leBlk_some, eq_self, true_or, or_true, reduceCtorEq, false_or, wrap01, mapTL, renL_tc, renL_tc1, allL_tc, allL_app, bdL_tc, allL, Ty.tc])) (OLe.refl _) (rows rest [t] rfl)
      refine awpO_loop_k _ (LeB [1, 3] (by refine ⟨?_, ?_, ?_⟩ <;> simp only [leFr, leFb, leHp, V.ren, V.renL, V.bd, V.bdL, allL, lt, Go.Ab.get, hget, List.map_cons, List.map_nil, List.length_cons, List.length_nil, List.length_append, List.getElem?_cons_zero, List.getElem?_cons_succ, List.getElem?_nil, Option.join_some, Option.join_none, List.getD_cons_zero, List.getD_cons_succ, List.getD_nil, Nat.reduceAdd, Nat.reduceLT, Nat.reduceEqDiff, Nat.zero_add, reduceIte, if_true, if_false, and_true, true_and, renL_vcells, allL_vcells, renL_pv, leBlk_some, eq_self, true_or, or_true, reduceCtorEq, false_or])) (OLe.refl _) first
termination_by t => SizeOf.sizeOf t
decreasing_by
  have := List.sizeOf_lt_of_mem ht
  simp only [Ty.mk.sizeOf_spec]; omega
theorem hd_spec {L : SB} {σ : Ty → Ty} (hσ : Sg L σ) : ∀ (n : Nat) (t r : Ty), good t → hdN n L t = some r → σ r = σ t ∧ good r ∧ (r.kd = 1 → lk L r.id = none)
  | 0, t, r, _, h => by cases h
  | n + 1, t, r, hg, h => by
    simp only [hdN] at h
    cases hk : (t.kd == 1) with
    | false =>
      rw [hk, if_neg (by decide)] at h
      cases h
      exact ⟨rfl, hg, fun h1 => by rw [h1] at hk; cases hk⟩
    | true =>
      rw [hk, if_pos rfl] at h
      cases hl : lk L t.id with
      | none => rw [hl] at h; cases h; exact ⟨rfl, hg, fun _ => hl⟩
      | some u =>
        rw [hl] at h
        obtain ⟨e, gu⟩ := hσ.bound t u (by simpa using hk) hl
        obtain ⟨a, b, c⟩ := hd_spec hσ n u r gu h
        exact ⟨by rw [a, e], b, c⟩
def resG (σ : Ty → Ty) (u : Ty) : Ty × Bool := if u.kd == 1 then (σ u, true) else (u, false)
mutual
theorem mapT_res {L : SB} {σ : Ty → Ty} (hσ : Sg L σ) : ∀ t : Ty, mapT (resG σ) t = σ t
  | .mk k id ss => by
    cases hk : (k == 1) with
    | true => simp only [mapT, resG, Ty.kd, hk, if_true]
    | false =>
      rw [hσ.app _ (by simpa [Ty.kd] using hk)]
      simp only [mapT, resG, Ty.kd, hk, Bool.false_eq_true, if_false, Ty.id, Ty.args, mapTL_res hσ ss]
theorem mapTL_res {L : SB} {σ : Ty → Ty} (hσ : Sg L σ) : ∀ ts : List Ty, mapTL (resG σ) ts = ts.map σ
  | [] => rfl
  | t :: ts => by simp only [mapTL, List.map_cons, mapT_res hσ t, mapTL_res hσ ts]
end
set_option maxHeartbeats 4000000 in
theorem rcl_ok {s m k2 : Nat} {p : Int} {L : SB} {σ : Ty → Ty} (hσ : Sg L σ) {O : OS} (hS : SolO O s m p L) (h2 : O k2 = some (.cells 56 [pS s])) {u : Ty} (hg : good u)
    (hr : u.kd = 1 → ∀ h, σ h = σ u → good h → ¬ h.kd = 1 → OCall Try.prog 35 [pS s, h.enc] O (OIs (σ h).enc O)) :
    OCall Try.prog 62 ([u.enc] ++ [pS k2]) O (OIs (.tup [(resG σ u).1.enc, .lit (.bool (resG σ u).2)]) O) := by
  refine OCall.intro fn62 (by simp) ?_
  unfold ac62
  simp only [argFr, List.cons_append, List.nil_append]
  cases hk : (u.kd == 1) with
  | false =>
    have hk' : (u.kd != 1) = true := by rw [bne, hk]; rfl
    simp only [resG, hk, Bool.false_eq_true, if_false]
    (repeat' (first|((with_reducible refine aopsO_cons' fun C hC=>?_);simp only [go_sem, cells_enc, pcells_enc, enc_eq, Ty.tc, hk'];((with_reducible refine finO hC ?_);clear hC C))|((with_reducible refine aopsO_ob' fun C hC=>?_);simp only [go_sem, cells_enc, pcells_enc, enc_eq, Ty.tc, hk'];((with_reducible refine finOb hC ?_);clear hC C))|((with_reducible refine aopsDO_cons' fun C hC=>?_);simp only [go_sem, cells_enc, pcells_enc, enc_eq, Ty.tc, hk'];((with_reducible refine finDO hC ?_);clear hC C))|((with_reducible refine aopsDO_ob' ?_ fun C hC=>?_);(focus rfl);simp only [go_sem, cells_enc, pcells_enc, enc_eq, Ty.tc, hk'];((with_reducible refine finDOb hC ?_);clear hC C))|(with_reducible first|refine awpO_seq_k fun K hK=>?_|refine awpO_reg_k fun K hK=>?_|refine awpO_dreg_k fun K hK=>?_|(refine aopsO_nil ?_;refine hK _ _ _ ?_;try clear hK K)|(refine aopsDO_nil ?_;refine hK _ _ _ _ ?_ ?_;(focus kernel_rfl);try clear hK K)|(refine thnO_normal ?_;refine hK _ _ _ ?_;try clear hK K)|refine catchO_normal ?_|refine awpO_skip_k ?_|refine awpO_ret_k ?_|refine awpO_exit_k ?_|refine awpO_block_k ?_|(refine thnO_exit ?_;try clear hK K)|(refine thnO_ret ?_;try clear hK K)|refine catchO_ret ?_|refine catchO_exit ?_|(refine catchO_other ?_ ?_;focus decide))|((with_reducible first|apply aopsO_guard'|apply aopsDO_guard'|apply awpO_cond_g);focus (simp only [go_sem, cells_enc, pcells_enc, enc_eq, Ty.tc, hk'];exact rfl))|(with_reducible first|refine gk_tt ?_|refine gk_ff ?_|refine ck_t ?_|refine ck_f ?_)|((with_reducible first|refine gk_tf ?_|refine gk_ft ?_|refine gk_u ?_|refine gk_u' ?_);first|(intro _ e;(first|rw [qqY] at e|rw [qqZ] at e);subst e)|(intro _ _ e e';(first|rw [qqY] at e|rw [qqZ] at e);subst e;subst e'))))
    refine retPO_ret (ps := [u.enc, bb false]) (List.range 40) rfl ?_ (OLe.refl _) ⟨rfl, rfl⟩
    exact vwA
  | true =>
    have hk' : (u.kd != 1) = false := by rw [bne, hk]; rfl
    have hk1 : u.kd = 1 := by simpa using hk
    simp only [resG, hk, if_true]
    obtain ⟨n, h, hh⟩ := hσ.hd u hg
    obtain ⟨e1, gh, e2⟩ := hd_spec hσ n u h hg hh
    have hc := head_ok hS hh
    cases hkh : (h.kd == 1) with
    | true =>
      have hkh1 : h.kd = 1 := by simpa using hkh
      have ef : σ u = h := by rw [← e1]; exact hσ.free h gh hkh1 (e2 hkh1)
      rw [ef]
      (repeat' (first|((with_reducible refine aopsO_call0 (hc) ?_ ?_ ?_);(focus (simp only [go_sem, cells_enc, pcells_enc, enc_eq, Ty.tc, hk', h2, hkh];done));(focus (simp only [go_sem, cells_enc, pcells_enc, enc_eq, Ty.tc, hk', h2, hkh];done));rintro _ _ _ ⟨rfl, e2⟩ e;(replace e2 := Eq.symm e2;subst e2);(first|rw [qqY] at e|rw [qqZ] at e);subst e)|((with_reducible refine aopsDO_call0 (hc) ?_ ?_ ?_);(focus (simp only [go_sem, cells_enc, pcells_enc, enc_eq, Ty.tc, hk', h2, hkh];done));(focus (simp only [go_sem, cells_enc, pcells_enc, enc_eq, Ty.tc, hk', h2, hkh];done));intro _ _ e e';(first|rw [qqY] at e|rw [qqZ] at e);subst e;subst e')|((with_reducible refine aopsO_callX (hc) ?_ ?_ ?_);(focus (simp only [go_sem, cells_enc, pcells_enc, enc_eq, Ty.tc, hk', h2, hkh];done));(focus (simp only [go_sem, cells_enc, pcells_enc, enc_eq, Ty.tc, hk', h2, hkh];done));rintro _ _ _ ⟨rfl, e2⟩ e;(replace e2 := Eq.symm e2;subst e2);(first|rw [qqY] at e|rw [qqZ] at e);subst e)|((with_reducible refine aopsO_cons' fun C hC=>?_);simp only [go_sem, cells_enc, pcells_enc, enc_eq, Ty.tc, hk', h2, hkh];((with_reducible refine finO hC ?_);clear hC C))|((with_reducible refine aopsO_ob' fun C hC=>?_);simp only [go_sem, cells_enc, pcells_enc, enc_eq, Ty.tc, hk', h2, hkh];((with_reducible refine finOb hC ?_);clear hC C))|((with_reducible refine aopsDO_cons' fun C hC=>?_);simp only [go_sem, cells_enc, pcells_enc, enc_eq, Ty.tc, hk', h2, hkh];((with_reducible refine finDO hC ?_);clear hC C))|((with_reducible refine aopsDO_ob' ?_ fun C hC=>?_);(focus rfl);simp only [go_sem, cells_enc, pcells_enc, enc_eq, Ty.tc, hk', h2, hkh];((with_reducible refine finDOb hC ?_);clear hC C))|(with_reducible first|refine awpO_seq_k fun K hK=>?_|refine awpO_reg_k fun K hK=>?_|refine awpO_dreg_k fun K hK=>?_|(refine aopsO_nil ?_;refine hK _ _ _ ?_;try clear hK K)|(refine aopsDO_nil ?_;refine hK _ _ _ _ ?_ ?_;(focus kernel_rfl);try clear hK K)|(refine thnO_normal ?_;refine hK _ _ _ ?_;try clear hK K)|refine catchO_normal ?_|refine awpO_skip_k ?_|refine awpO_ret_k ?_|refine awpO_exit_k ?_|refine awpO_block_k ?_|(refine thnO_exit ?_;try clear hK K)|(refine thnO_ret ?_;try clear hK K)|refine catchO_ret ?_|refine catchO_exit ?_|(refine catchO_other ?_ ?_;focus decide))|((with_reducible first|apply aopsO_guard'|apply aopsDO_guard'|apply awpO_cond_g);focus (simp only [go_sem, cells_enc, pcells_enc, enc_eq, Ty.tc, hk', h2, hkh];exact rfl))|(with_reducible first|refine gk_tt ?_|refine gk_ff ?_|refine ck_t ?_|refine ck_f ?_)|((with_reducible first|refine gk_tf ?_|refine gk_ft ?_|refine gk_u ?_|refine gk_u' ?_);first|(intro _ e;(first|rw [qqY] at e|rw [qqZ] at e);subst e)|(intro _ _ e e';(first|rw [qqY] at e|rw [qqZ] at e);subst e;subst e'))))
      refine retPO_ret (ps := [h.enc, bb true]) (List.range 40) rfl ?_ (OLe.refl _) ⟨rfl, rfl⟩
      exact vwA
    | false =>
      have hkh1 : ¬ h.kd = 1 := by simpa using hkh
      have hc2 := hr hk1 h e1 gh hkh1
      rw [e1] at hc2
      (repeat' (first|((with_reducible refine aopsO_call0 (hc) ?_ ?_ ?_);(focus (simp only [go_sem, cells_enc, pcells_enc, enc_eq, Ty.tc, hk', h2, hkh];done));(focus (simp only [go_sem, cells_enc, pcells_enc, enc_eq, Ty.tc, hk', h2, hkh];done));rintro _ _ _ ⟨rfl, e2⟩ e;(replace e2 := Eq.symm e2;subst e2);(first|rw [qqY] at e|rw [qqZ] at e);subst e)|((with_reducible refine aopsDO_call0 (hc) ?_ ?_ ?_);(focus (simp only [go_sem, cells_enc, pcells_enc, enc_eq, Ty.tc, hk', h2, hkh];done));(focus (simp only [go_sem, cells_enc, pcells_enc, enc_eq, Ty.tc, hk', h2, hkh];done));intro _ _ e e';(first|rw [qqY] at e|rw [qqZ] at e);subst e;subst e')|((with_reducible refine aopsO_callX (hc) ?_ ?_ ?_);(focus (simp only [go_sem, cells_enc, pcells_enc, enc_eq, Ty.tc, hk', h2, hkh];done));(focus (simp only [go_sem, cells_enc, pcells_enc, enc_eq, Ty.tc, hk', h2, hkh];done));rintro _ _ _ ⟨rfl, e2⟩ e;(replace e2 := Eq.symm e2;subst e2);(first|rw [qqY] at e|rw [qqZ] at e);subst e)|((with_reducible refine aopsO_call0 (hc2) ?_ ?_ ?_);(focus (simp only [go_sem, cells_enc, pcells_enc, enc_eq, Ty.tc, hk', h2, hkh];done));(focus (simp only [go_sem, cells_enc, pcells_enc, enc_eq, Ty.tc, hk', h2, hkh];done));rintro _ _ _ ⟨rfl, e2⟩ e;(replace e2 := Eq.symm e2;subst e2);(first|rw [qqY] at e|rw [qqZ] at e);subst e)|((with_reducible refine aopsDO_call0 (hc2) ?_ ?_ ?_);(focus (simp only [go_sem, cells_enc, pcells_enc, enc_eq, Ty.tc, hk', h2, hkh];done));(focus (simp only [go_sem, cells_enc, pcells_enc, enc_eq, Ty.tc, hk', h2, hkh];done));intro _ _ e e';(first|rw [qqY] at e|rw [qqZ] at e);subst e;subst e')|((with_reducible refine aopsO_callX (hc2) ?_ ?_ ?_);(focus (simp only [go_sem, cells_enc, pcells_enc, enc_eq, Ty.tc, hk', h2, hkh];done));(focus (simp only [go_sem, cells_enc, pcells_enc, enc_eq, Ty.tc, hk', h2, hkh];done));rintro _ _ _ ⟨rfl, e2⟩ e;(replace e2 := Eq.symm e2;subst e2);(first|rw [qqY] at e|rw [qqZ] at e);subst e)|((with_reducible refine aopsO_cons' fun C hC=>?_);simp only [go_sem, cells_enc, pcells_enc, enc_eq, Ty.tc, hk', h2, hkh];((with_reducible refine finO hC ?_);clear hC C))|((with_reducible refine aopsO_ob' fun C hC=>?_);simp only [go_sem, cells_enc, pcells_enc, enc_eq, Ty.tc, hk', h2, hkh];((with_reducible refine finOb hC ?_);clear hC C))|((with_reducible refine aopsDO_cons' fun C hC=>?_);simp only [go_sem, cells_enc, pcells_enc, enc_eq, Ty.tc, hk', h2, hkh];((with_reducible refine finDO hC ?_);clear hC C))|((with_reducible refine aopsDO_ob' ?_ fun C hC=>?_);(focus rfl);simp only [go_sem, cells_enc, pcells_enc, enc_eq, Ty.tc, hk', h2, hkh];((with_reducible refine finDOb hC ?_);clear hC C))|(with_reducible first|refine awpO_seq_k fun K hK=>?_|refine awpO_reg_k fun K hK=>?_|refine awpO_dreg_k fun K hK=>?_|(refine aopsO_nil ?_;refine hK _ _ _ ?_;try clear hK K)|(refine aopsDO_nil ?_;refine hK _ _ _ _ ?_ ?_;(focus kernel_rfl);try clear hK K)|(refine thnO_normal ?_;refine hK _ _ _ ?_;try clear hK K)|refine catchO_normal ?_|refine awpO_skip_k ?_|refine awpO_ret_k ?_|refine awpO_exit_k ?_|refine awpO_block_k ?_|(refine thnO_exit ?_;try clear hK K)|(refine thnO_ret ?_;try clear hK K)|refine catchO_ret ?_|refine catchO_exit ?_|(refine catchO_other ?_ ?_;focus decide))|((with_reducible first|apply aopsO_guard'|apply aopsDO_guard'|apply awpO_cond_g);focus (simp only [go_sem, cells_enc, pcells_enc, enc_eq, Ty.tc, hk', h2, hkh];exact rfl))|(with_reducible first|refine gk_tt ?_|refine gk_ff ?_|refine ck_t ?_|refine ck_f ?_)|((with_reducible first|refine gk_tf ?_|refine gk_ft ?_|refine gk_u ?_|refine gk_u' ?_);first|(intro _ e;(first|rw [qqY] at e|rw [qqZ] at e);subst e)|(intro _ _ e e';(first|rw [qqY] at e|rw [qqZ] at e);subst e;subst e'))))
      refine retPO_ret (ps := [(σ u).enc, bb true]) (List.range 40) rfl ?_ (OLe.refl _) ⟨rfl, rfl⟩
      exact vwA
set_option maxHeartbeats 1000000 in
theorem res_step {s m : Nat} {p : Int} {L : SB} {σ : Ty → Ty} (hσ : Sg L σ) {O : OS} (hS : SolO O s m p L) (P : Ty → Prop) (hP : ∀ t, P t → (resG σ t).2 = false → ∀ a ∈ t.args, P a) {t : Ty} (ht : P t)
    (hc : ∀ k2 O2, SolO O2 s m p L → O2 k2 = some (.cells 56 [pS s]) → ∀ u, P u → OCall Try.prog 62 ([u.enc] ++ [pS k2]) O2 (OIs (.tup [(resG σ u).1.enc, .lit (.bool (resG σ u).2)]) O2)) :
    OCall Try.prog 35 [pS s, t.enc] O (OIs (σ t).enc O) := by
  refine OCall.intro fn35 (by simp) ?_
  unfold ac35
  simp only [argFr]
  refine awpO_seq_k fun K hK => ?_
  refine awpO_reg_k fun K hK => ?_
  refine aopsO_boxO (cs := [.pv (pS s)]) (ps := [pS s]) rfl rfl rfl fun k2 f2 => ?_
  have hm := mapO_ok 62 [pS k2] (resG σ) (oupd O k2 (.cells 56 [pS s])) P hP (hc k2 _ ⟨oupd_keep f2 hS.1, oupd_keep f2 hS.2⟩ (oupd_same _ _ _)) t ht
  rw [mapT_res hσ] at hm
  (repeat' (first|((with_reducible refine aopsO_call0 (hm) ?_ ?_ ?_);(focus (simp only [go_sem, cells_enc, pcells_enc, enc_eq, Ty.tc];done));(focus (simp only [go_sem, cells_enc, pcells_enc, enc_eq, Ty.tc];done));rintro _ _ _ ⟨rfl, e2⟩ e;(replace e2 := Eq.symm e2;subst e2);(first|rw [qqY] at e|rw [qqZ] at e);subst e)|((with_reducible refine aopsDO_call0 (hm) ?_ ?_ ?_);(focus (simp only [go_sem, cells_enc, pcells_enc, enc_eq, Ty.tc];done));(focus (simp only [go_sem, cells_enc, pcells_enc, enc_eq, Ty.tc];done));intro _ _ e e';(first|rw [qqY] at e|rw [qqZ] at e);subst e;subst e')|((with_reducible refine aopsO_callX (hm) ?_ ?_ ?_);(focus (simp only [go_sem, cells_enc, pcells_enc, enc_eq, Ty.tc];done));(focus (simp only [go_sem, cells_enc, pcells_enc, enc_eq, Ty.tc];done));rintro _ _ _ ⟨rfl, e2⟩ e;(replace e2 := Eq.symm e2;subst e2);(first|rw [qqY] at e|rw [qqZ] at e);subst e)|((with_reducible refine aopsO_cons' fun C hC=>?_);simp only [go_sem, cells_enc, pcells_enc, enc_eq, Ty.tc];((with_reducible refine finO hC ?_);clear hC C))|((with_reducible refine aopsO_ob' fun C hC=>?_);simp only [go_sem, cells_enc, pcells_enc, enc_eq, Ty.tc];((with_reducible refine finOb hC ?_);clear hC C))|((with_reducible refine aopsDO_cons' fun C hC=>?_);simp only [go_sem, cells_enc, pcells_enc, enc_eq, Ty.tc];((with_reducible refine finDO hC ?_);clear hC C))|((with_reducible refine aopsDO_ob' ?_ fun C hC=>?_);(focus rfl);simp only [go_sem, cells_enc, pcells_enc, enc_eq, Ty.tc];((with_reducible refine finDOb hC ?_);clear hC C))|(with_reducible first|refine awpO_seq_k fun K hK=>?_|refine awpO_reg_k fun K hK=>?_|refine awpO_dreg_k fun K hK=>?_|(refine aopsO_nil ?_;refine hK _ _ _ ?_;try clear hK K)|(refine aopsDO_nil ?_;refine hK _ _ _ _ ?_ ?_;(focus kernel_rfl);try clear hK K)|(refine thnO_normal ?_;refine hK _ _ _ ?_;try clear hK K)|refine catchO_normal ?_|refine awpO_skip_k ?_|refine awpO_ret_k ?_|refine awpO_exit_k ?_|refine awpO_block_k ?_|(refine thnO_exit ?_;try clear hK K)|(refine thnO_ret ?_;try clear hK K)|refine catchO_ret ?_|refine catchO_exit ?_|(refine catchO_other ?_ ?_;focus decide))|((with_reducible first|apply aopsO_guard'|apply aopsDO_guard'|apply awpO_cond_g);focus (simp only [go_sem, cells_enc, pcells_enc, enc_eq, Ty.tc];exact rfl))|(with_reducible first|refine gk_tt ?_|refine gk_ff ?_|refine ck_t ?_|refine ck_f ?_)|((with_reducible first|refine gk_tf ?_|refine gk_ft ?_|refine gk_u ?_|refine gk_u' ?_);first|(intro _ e;(first|rw [qqY] at e|rw [qqZ] at e);subst e)|(intro _ _ e e';(first|rw [qqY] at e|rw [qqZ] at e);subst e;subst e'))))
  refine retPO_ret (ps := [(σ t).enc]) (List.range 40) rfl ?_ (OLe.fresh f2) ⟨rfl, rfl⟩
  exact vwA
theorem res_nv {s m : Nat} {p : Int} {L : SB} {σ : Ty → Ty} (hσ : Sg L σ) : ∀ (N : Nat) (t : Ty) (O : OS), SolO O s m p L → good t → ¬ t.kd = 1 → nds (σ t) ≤ N → OCall Try.prog 35 [pS s, t.enc] O (OIs (σ t).enc O) := by
  intro N
  induction N with
  | zero => intro t O _ _ _ h; have := nds_pos (σ t); omega
  | succ N ih =>
    intro t O hS hg hk hN
    refine res_step hσ hS (fun u => good u ∧ nds (σ u) ≤ N + 1 ∧ (u.kd = 1 → nds (σ u) ≤ N)) (fun u ⟨gu, nu, _⟩ hb a ha => ?_) ⟨hg, hN, fun h => absurd h hk⟩ fun k2 O2 hS2 h2 u ⟨gu, nu, hu⟩ => ?_
    · have hku : ¬ u.kd = 1 := fun e => by simp [resG, e] at hb
      have := nds_memS (σ := σ) ha
      rw [hσ.app u hku] at nu
      simp only [nds] at nu
      exact ⟨good_mem gu ha, by omega, fun _ => by omega⟩
    · refine rcl_ok hσ hS2 h2 gu fun hk1 h eh gh nh => ih h O2 hS2 gh nh ?_
      rw [eh]; exact hu hk1
theorem res_ok {s m : Nat} {p : Int} {L : SB} {σ : Ty → Ty} (hσ : Sg L σ) {O : OS} (hS : SolO O s m p L) {t : Ty} (hg : good t) : OCall Try.prog 35 [pS s, t.enc] O (OIs (σ t).enc O) := by
  by_cases hk : t.kd = 1
  · refine res_step hσ hS (fun u => u = t) (fun u e hb => ?_) rfl fun k2 O2 hS2 h2 u e => ?_
    · subst e; simp [resG, hk] at hb
    · subst e
      exact rcl_ok hσ hS2 h2 hg fun _ h _ gh nh => res_nv hσ _ h O2 hS2 gh nh (Nat.le_refl _)
  · exact res_nv hσ _ t O hS hg hk (Nat.le_refl _)
end Go.Proofs.Ytiediojibljpiaa
