/- A5: joined from V2 V3. -/
import Derived.Test.YtbdoblgofddhdaaFnU
import Derived.Test.YtbdoblgofddhdaaA4
/- Traits: the walks, first part. -/
set_option maxRecDepth 10000
set_option linter.unusedSimpArgs false
set_option linter.unusedVariables false
namespace Go.Proofs.Ytbdoblgofddhdaa
open Go Go.Ab
set_option maxHeartbeats 1000000 in
theorem idxTb_ok (fid : FuncId) (caps : List PV) (p : Tb → Bool) (ts : List Tb) (hp : ∀ t ∈ ts, PCall Try.prog fid ([Tb.enc t] ++ caps) (bb (p t))) : PCall Try.prog 144 [.list 4 (encTb ts), .fn fid caps] (ii (idxF p ts 0)) := by
  refine PCall.intro' (ps := [ii (idxF p ts 0)]) fn144 (by simp) fun hok => ?_
  have hss : ts.length ≤ 1099511627776 := by
    simp only [PV.okL, PV.ok, encTb_len, big] at hok; exact hok.1.1
  clear hok
  unfold ac144
  simp only [argFr]
  (repeat' (first | ((with_reducible first | refine qqT fun C hC => ?_ | refine qqU fun C hC => ?_ | intro C hC); simp only [go_sem, encTb_len]; ((with_reducible first | refine finA hC ?_ | refine finD hC ?_); clear hC C)) | (with_reducible first | refine qqA fun K hK => ?_ | refine qqB fun K hK => ?_ | refine qqC fun K hK => ?_ | (refine qqD ?_; refine hK _ _ ?_; try clear hK K) | (refine qqE ?_; refine hK _ _ _ ?_ ?_; (focus kernel_rfl); try clear hK K) | (refine qqF ?_; refine hK _ _ ?_; try clear hK K) | refine qqG ?_ | refine qqH ?_ | refine qqI ?_ | refine qqJ ?_ | refine qqK ?_ | (refine qqL ?_; try clear hK K) | (refine qqM ?_; try clear hK K) | refine qqN ?_ | refine qqO ?_ | (refine qqP ?_ ?_; focus decide)) | ((with_reducible first | apply qqQ | apply qqR | apply qqS); focus (simp only [go_sem, encTb_len]; exact rfl)) | (with_reducible first | refine gk_tt ?_ | refine gk_ff ?_ | refine ck_t ?_ | refine ck_f ?_) | ((with_reducible first | refine gk_tf ?_ | refine gk_ft ?_ | refine gk_u ?_ | refine gk_u' ?_); first | (intro _ e; (first | rw [qqY] at e | rw [qqZ] at e); subst e) | (intro _ _ e e'; (first | rw [qqY] at e | rw [qqZ] at e); subst e; subst e'))))
  have rows : ∀ (rest pre : List Tb), pre ++ rest = ts → idxF p ts 0 = idxF p rest pre.length → loopN (awp Try.prog ac144_l0) (catch_ 0 (thn K (retP [RV.tmp 4] [ii (idxF p ts 0)]))) (rest.length + 1)
     [(8, .pv (ii pre.length)), (7, .pv (ii ts.length)), (1, .pv (.fn fid caps)), (0, .pv (.list 4 (encTb ts)))] [] := by
    intro rest
    induction rest with
    | nil =>
      intro pre hpre hi
      have hpre : pre = ts := by simpa using hpre
      subst hpre
      refine loopN_k fun K1 hK1 => ?_
      unfold ac144_l0
      (repeat' (first | ((with_reducible first | refine qqT fun C hC => ?_ | refine qqU fun C hC => ?_ | intro C hC); simp only [go_sem, lt_end]; ((with_reducible first | refine finA hC ?_ | refine finD hC ?_); clear hC C)) | (with_reducible first | refine qqA fun K hK => ?_ | refine qqB fun K hK => ?_ | refine qqC fun K hK => ?_ | (refine qqD ?_; refine hK _ _ ?_; try clear hK K) | (refine qqE ?_; refine hK _ _ _ ?_ ?_; (focus kernel_rfl); try clear hK K) | (refine qqF ?_; refine hK _ _ ?_; try clear hK K) | refine qqG ?_ | refine qqH ?_ | refine qqI ?_ | refine qqJ ?_ | refine qqK ?_ | (refine qqL ?_; try clear hK K) | (refine qqM ?_; try clear hK K) | refine qqN ?_ | refine qqO ?_ | (refine qqP ?_ ?_; focus decide)) | ((with_reducible first | apply qqQ | apply qqR | apply qqS); focus (simp only [go_sem, lt_end]; exact rfl)) | (with_reducible first | refine gk_tt ?_ | refine gk_ff ?_ | refine ck_t ?_ | refine ck_f ?_) | ((with_reducible first | refine gk_tf ?_ | refine gk_ft ?_ | refine gk_u ?_ | refine gk_u' ?_); first | (intro _ e; (first | rw [qqY] at e | rw [qqZ] at e); subst e) | (intro _ _ e e'; (first | rw [qqY] at e | rw [qqZ] at e); subst e; subst e'))))
      rw [hi]
      (refine retP_ret (List.range 40) rfl ?_; (try simp only [idxF, if_true, if_false, Bool.false_eq_true, Bool.not_true, Bool.not_false]); exact vwA)
    | cons t rest ih =>
      intro pre hpre hi
      have hlt : decide ((pre.length : Int) < (ts.length : Int)) = true := by subst hpre; exact lt_app _ _ _
      have hat : (encTb ts)[pre.length]? = some (Tb.enc t) := by subst hpre; exact encTb_at _ _ _
      have hb : pre.length + 1 ≤ big := by have := congrArg List.length hpre; simp at this; unfold big; omega
      have hc := hp t (by subst hpre; simp)
      refine loopN_k fun K1 hK1 => ?_
      unfold ac144_l0
      cases hpt : p t with
      | true =>
        rw [hpt] at hc
        (repeat' (first | ((first | (with_reducible refine qqV fun C hC => ?_) | (with_reducible refine qqW fun C hC => ?_) | ((with_reducible intro C hC); (with_reducible refine qqX ?_))); (first | (simp only [go_sem, hlt, hat, pcells_tb]; (first | ((with_reducible refine ACall.pure [] (.pv _) ?_ (hc) ?_); (focus (exact vwA)))))); (simp only [go_sem, hlt, hat, pcells_tb]); ((with_reducible first | refine finA hC ?_ | refine finD hC ?_); clear hC C)) | ((with_reducible first | refine qqT fun C hC => ?_ | refine qqU fun C hC => ?_ | intro C hC); simp only [go_sem, hlt, hat, pcells_tb]; ((with_reducible first | refine finA hC ?_ | refine finD hC ?_); clear hC C)) | (with_reducible first | refine qqA fun K hK => ?_ | refine qqB fun K hK => ?_ | refine qqC fun K hK => ?_ | (refine qqD ?_; refine hK _ _ ?_; try clear hK K) | (refine qqE ?_; refine hK _ _ _ ?_ ?_; (focus kernel_rfl); try clear hK K) | (refine qqF ?_; refine hK _ _ ?_; try clear hK K) | refine qqG ?_ | refine qqH ?_ | refine qqI ?_ | refine qqJ ?_ | refine qqK ?_ | (refine qqL ?_; try clear hK K) | (refine qqM ?_; try clear hK K) | refine qqN ?_ | refine qqO ?_ | (refine qqP ?_ ?_; focus decide)) | ((with_reducible first | apply qqQ | apply qqR | apply qqS); focus (simp only [go_sem, hlt, hat, pcells_tb]; exact rfl)) | (with_reducible first | refine gk_tt ?_ | refine gk_ff ?_ | refine ck_t ?_ | refine ck_f ?_) | ((with_reducible first | refine gk_tf ?_ | refine gk_ft ?_ | refine gk_u ?_ | refine gk_u' ?_); first | (intro _ e; (first | rw [qqY] at e | rw [qqZ] at e); subst e) | (intro _ _ e e'; (first | rw [qqY] at e | rw [qqZ] at e); subst e; subst e'))))
        simp only [idxF, hpt, if_true] at hi
        rw [hi]
        (refine retP_ret (List.range 40) rfl ?_; exact vwA)
      | false =>
        rw [hpt] at hc
        (repeat' (first | ((first | (with_reducible refine qqV fun C hC => ?_) | (with_reducible refine qqW fun C hC => ?_) | ((with_reducible intro C hC); (with_reducible refine qqX ?_))); (first | (simp only [go_sem, hlt, hat, pcells_tb]; (first | ((with_reducible refine ACall.pure [] (.pv _) ?_ (hc) ?_); (focus (exact vwA)))))); (simp only [go_sem, hlt, hat, pcells_tb]); ((with_reducible first | refine finA hC ?_ | refine finD hC ?_); clear hC C)) | ((with_reducible first | refine qqT fun C hC => ?_ | refine qqU fun C hC => ?_ | intro C hC); simp only [go_sem, hlt, hat, pcells_tb]; ((with_reducible first | refine finA hC ?_ | refine finD hC ?_); clear hC C)) | (with_reducible first | refine qqA fun K hK => ?_ | refine qqB fun K hK => ?_ | refine qqC fun K hK => ?_ | (refine qqD ?_; refine hK _ _ ?_; try clear hK K) | (refine qqE ?_; refine hK _ _ _ ?_ ?_; (focus kernel_rfl); try clear hK K) | (refine qqF ?_; refine hK _ _ ?_; try clear hK K) | refine qqG ?_ | refine qqH ?_ | refine qqI ?_ | refine qqJ ?_ | refine qqK ?_ | (refine qqL ?_; try clear hK K) | (refine qqM ?_; try clear hK K) | refine qqN ?_ | refine qqO ?_ | (refine qqP ?_ ?_; focus decide)) | ((with_reducible first | apply qqQ | apply qqR | apply qqS); focus (simp only [go_sem, hlt, hat, pcells_tb]; exact rfl)) | (with_reducible first | refine gk_tt ?_ | refine gk_ff ?_ | refine ck_t ?_ | refine ck_f ?_) | ((with_reducible first | refine gk_tf ?_ | refine gk_ft ?_ | refine gk_u ?_ | refine gk_u' ?_); first | (intro _ e; (first | rw [qqY] at e | rw [qqZ] at e); subst e) | (intro _ _ e e'; (first | rw [qqY] at e | rw [qqZ] at e); subst e; subst e'))))
        have hw := wrapS (n := pre.length) (by unfold big at hb; omega)
        refine qqF ?_
        refine hK1 _ _ _ _ _ (LeB [] (by refine ⟨?_, ?_, ?_⟩ <;> simp only [leFr, leFb, leHp, V.ren, V.renL, V.bd, V.bdL, allL, lt, Go.Ab.get, hget, List.map_cons, List.map_nil, List.length_cons, List.length_nil, List.length_append, List.getElem?_cons_zero, List.getElem?_cons_succ, List.getElem?_nil, Option.join_some, Option.join_none, List.getD_cons_zero, List.getD_cons_succ, List.getD_nil, Nat.reduceAdd, Nat.reduceLT, Nat.reduceEqDiff, Nat.zero_add, reduceIte, if_true, if_false, and_true, true_and, renL_vcells, allL_vcells, renL_pv, leBlk_some, eq_self, true_or, or_true, reduceCtorEq, false_or, hw, List.length_append])) (ih (pre ++ [t]) (by simp [hpre]) (by simpa [idxF, hpt] using hi))
  refine awp_loop_k _ (LeB [] (by refine ⟨?_, ?_, ?_⟩ <;> simp only [leFr, leFb, leHp, V.ren, V.renL, V.bd, V.bdL, allL, lt, Go.Ab.get, hget, List.map_cons, List.map_nil, List.length_cons, List.length_nil, List.length_append, List.getElem?_cons_zero, List.getElem?_cons_succ, List.getElem?_nil, Option.join_some, Option.join_none, List.getD_cons_zero, List.getD_cons_succ, List.getD_nil, Nat.reduceAdd, Nat.reduceLT, Nat.reduceEqDiff, Nat.zero_add, reduceIte, if_true, if_false, and_true, true_and, renL_vcells, allL_vcells, renL_pv, leBlk_some, eq_self, true_or, or_true, reduceCtorEq, false_or, c0])) (rows ts [] rfl rfl)
set_option maxHeartbeats 2000000 in
theorem occt_ok (p : Int) : ∀ t : Ty, PCall Try.prog 180 [t.enc, ii p] (bb (occP p t))
  | .mk k id ss => by
    have hrec : ∀ t ∈ ss, PCall Try.prog 180 [t.enc, ii p] (bb (occP p t)) := fun t ht => occt_ok p t
    have hcl : ∀ t ∈ ss, PCall Try.prog 204 ([Ty.enc t] ++ [.rptr [ii p]]) (bb (occP p t)) := fun t ht => by
      have hc := hrec t ht
      clear hrec
      refine PCall.intro (ps := [bb (occP p t)]) fn204 (by simp) ?_
      unfold ac204
      simp only [argFr, List.cons_append, List.nil_append]
      (repeat' (first | ((first | (with_reducible refine qqV fun C hC => ?_) | (with_reducible refine qqW fun C hC => ?_) | ((with_reducible intro C hC); (with_reducible refine qqX ?_))); (first | (simp only [go_sem, cells_enc, Ty.tc]; (first | ((with_reducible apply ACall.pure0 [] (hc)); (focus (exact vwA)))))); (simp only [go_sem, cells_enc, Ty.tc]); ((with_reducible first | refine finA hC ?_ | refine finD hC ?_); clear hC C)) | ((with_reducible first | refine qqT fun C hC => ?_ | refine qqU fun C hC => ?_ | intro C hC); simp only [go_sem, cells_enc, Ty.tc]; ((with_reducible first | refine finA hC ?_ | refine finD hC ?_); clear hC C)) | (with_reducible first | refine qqA fun K hK => ?_ | refine qqB fun K hK => ?_ | refine qqC fun K hK => ?_ | (refine qqD ?_; refine hK _ _ ?_; try clear hK K) | (refine qqE ?_; refine hK _ _ _ ?_ ?_; (focus kernel_rfl); try clear hK K) | (refine qqF ?_; refine hK _ _ ?_; try clear hK K) | refine qqG ?_ | refine qqH ?_ | refine qqI ?_ | refine qqJ ?_ | refine qqK ?_ | (refine qqL ?_; try clear hK K) | (refine qqM ?_; try clear hK K) | refine qqN ?_ | refine qqO ?_ | (refine qqP ?_ ?_; focus decide)) | ((with_reducible first | apply qqQ | apply qqR | apply qqS); focus (simp only [go_sem, cells_enc, Ty.tc]; exact rfl)) | (with_reducible first | refine gk_tt ?_ | refine gk_ff ?_ | refine ck_t ?_ | refine ck_f ?_) | ((with_reducible first | refine gk_tf ?_ | refine gk_ft ?_ | refine gk_u ?_ | refine gk_u' ?_); first | (intro _ e; (first | rw [qqY] at e | rw [qqZ] at e); subst e) | (intro _ _ e e'; (first | rw [qqY] at e | rw [qqZ] at e); subst e; subst e'))))
      (refine retP_ret (List.range 40) rfl ?_; exact vwA)
    have hh := hasT_ok 204 [.rptr [ii p]] (fun a => occP p a) ss hcl
    rw [occPL_any] at hh
    clear hrec hcl
    refine PCall.intro (ps := [bb (occP p (.mk k id ss))]) fn180 (by simp) ?_
    unfold ac180
    simp only [argFr]
    have hs : True := trivial
    (repeat' (first | ((first | (with_reducible refine qqV fun C hC => ?_) | (with_reducible refine qqW fun C hC => ?_) | ((with_reducible intro C hC); (with_reducible refine qqX ?_))); (first | (simp only [go_sem, cells_enc, Ty.tc, Ty.kd, Ty.id, Ty.args, hs]; (first | ((with_reducible apply ACall.pure0 [1] (hh)); (focus (exact vwA)))))); (simp only [go_sem, cells_enc, Ty.tc, Ty.kd, Ty.id, Ty.args, hs]); ((with_reducible first | refine finA hC ?_ | refine finD hC ?_); clear hC C)) | ((with_reducible first | refine qqT fun C hC => ?_ | refine qqU fun C hC => ?_ | intro C hC); simp only [go_sem, cells_enc, Ty.tc, Ty.kd, Ty.id, Ty.args, hs]; ((with_reducible first | refine finA hC ?_ | refine finD hC ?_); clear hC C)) | (with_reducible first | refine qqA fun K hK => ?_ | refine qqB fun K hK => ?_ | refine qqC fun K hK => ?_ | (refine qqD ?_; refine hK _ _ ?_; try clear hK K) | (refine qqE ?_; refine hK _ _ _ ?_ ?_; (focus kernel_rfl); try clear hK K) | (refine qqF ?_; refine hK _ _ ?_; try clear hK K) | refine qqG ?_ | refine qqH ?_ | refine qqI ?_ | refine qqJ ?_ | refine qqK ?_ | (refine qqL ?_; try clear hK K) | (refine qqM ?_; try clear hK K) | refine qqN ?_ | refine qqO ?_ | (refine qqP ?_ ?_; focus decide)) | ((with_reducible first | apply qqQ | apply qqR | apply qqS); focus (simp only [go_sem, cells_enc, Ty.tc, Ty.kd, Ty.id, Ty.args, hs]; exact rfl)) | (with_reducible first | refine gk_tt ?_ | refine gk_ff ?_ | refine ck_t ?_ | refine ck_f ?_) | ((with_reducible first | refine gk_tf ?_ | refine gk_ft ?_ | refine gk_u ?_ | refine gk_u' ?_); first | (intro _ e; (first | rw [qqY] at e | rw [qqZ] at e); subst e) | (intro _ _ e e'; (first | rw [qqY] at e | rw [qqZ] at e); subst e; subst e')) | ((with_reducible refine ck_s (fun h => ?_) (fun h => ?_)); all_goals ((try simp only [Bool.not_eq_true', Bool.not_eq_false'] at h); (try simp only [h, Bool.not_true, Bool.not_false]); (replace hs := And.intro h hs); clear h)) | ((with_reducible refine gk_s (fun h => ?_) (fun h => ?_)); all_goals ((try simp only [Bool.not_eq_true', Bool.not_eq_false'] at h); (try simp only [h, Bool.not_true, Bool.not_false]); (replace hs := And.intro h hs); clear h))))
    all_goals (refine retP_ret (List.range 40) rfl ?_; (try simp only [occP, hs, if_true, if_false, Bool.false_eq_true, Bool.not_true, Bool.not_false, reduceIte]); exact vwA)
termination_by t => SizeOf.sizeOf t
decreasing_by
  have := List.sizeOf_lt_of_mem ht
  simp only [Ty.mk.sizeOf_spec]; omega
theorem noc_ok (p : Int) (d : Dc) : PCall Try.prog 179 ([ii p] ++ [.rptr [.list 1 (encI d.ps), ii d.t.kd, ii d.t.id, .list 3 (encL d.t.args), ii d.tr, .list 4 (encTb d.bs), d.ms]]) (bb (!occP p d.t)) := by
  have hc := occt_ok p d.t
  refine PCall.intro (ps := [bb (!occP p d.t)]) fn179 (by simp) ?_
  unfold ac179
  simp only [argFr, List.cons_append, List.nil_append]
  (repeat' (first | ((first | (with_reducible refine qqV fun C hC => ?_) | (with_reducible refine qqW fun C hC => ?_) | ((with_reducible intro C hC); (with_reducible refine qqX ?_))); (first | (simp only [go_sem, cells_enc, Ty.tc]; (first | ((with_reducible apply ACall.pure0 [] (hc)); (focus (exact vwA)))))); (simp only [go_sem, cells_enc, Ty.tc]); ((with_reducible first | refine finA hC ?_ | refine finD hC ?_); clear hC C)) | ((with_reducible first | refine qqT fun C hC => ?_ | refine qqU fun C hC => ?_ | intro C hC); simp only [go_sem, cells_enc, Ty.tc]; ((with_reducible first | refine finA hC ?_ | refine finD hC ?_); clear hC C)) | (with_reducible first | refine qqA fun K hK => ?_ | refine qqB fun K hK => ?_ | refine qqC fun K hK => ?_ | (refine qqD ?_; refine hK _ _ ?_; try clear hK K) | (refine qqE ?_; refine hK _ _ _ ?_ ?_; (focus kernel_rfl); try clear hK K) | (refine qqF ?_; refine hK _ _ ?_; try clear hK K) | refine qqG ?_ | refine qqH ?_ | refine qqI ?_ | refine qqJ ?_ | refine qqK ?_ | (refine qqL ?_; try clear hK K) | (refine qqM ?_; try clear hK K) | refine qqN ?_ | refine qqO ?_ | (refine qqP ?_ ?_; focus decide)) | ((with_reducible first | apply qqQ | apply qqR | apply qqS); focus (simp only [go_sem, cells_enc, Ty.tc]; exact rfl)) | (with_reducible first | refine gk_tt ?_ | refine gk_ff ?_ | refine ck_t ?_ | refine ck_f ?_) | ((with_reducible first | refine gk_tf ?_ | refine gk_ft ?_ | refine gk_u ?_ | refine gk_u' ?_); first | (intro _ e; (first | rw [qqY] at e | rw [qqZ] at e); subst e) | (intro _ _ e e'; (first | rw [qqY] at e | rw [qqZ] at e); subst e; subst e'))))
  (refine retP_ret (List.range 40) rfl ?_; exact vwA)
theorem ebd_ok (b : Tb) (t : Ty) (tr : Int) : PCall Try.prog 145 ([b.enc] ++ [.rptr [ii tr], .rptr [ii t.kd, ii t.id, .list 3 (encL t.args)]]) (bb (if b.tr == tr then eqT b.t t else false)) := by
  have hc := equal_ok b.t t
  refine PCall.intro (ps := [bb (if b.tr == tr then eqT b.t t else false)]) fn145 (by simp) ?_
  unfold ac145
  simp only [argFr, List.cons_append, List.nil_append]
  cases h : (b.tr == tr) with
  | true =>
    (repeat' (first | ((first | (with_reducible refine qqV fun C hC => ?_) | (with_reducible refine qqW fun C hC => ?_) | ((with_reducible intro C hC); (with_reducible refine qqX ?_))); (first | (simp only [go_sem, pcells_tb, Tb.enc, cells_enc, Ty.tc, h]; (first | ((with_reducible apply ACall.pure0 [] (hc)); (focus (exact vwA)))))); (simp only [go_sem, pcells_tb, Tb.enc, cells_enc, Ty.tc, h]); ((with_reducible first | refine finA hC ?_ | refine finD hC ?_); clear hC C)) | ((with_reducible first | refine qqT fun C hC => ?_ | refine qqU fun C hC => ?_ | intro C hC); simp only [go_sem, pcells_tb, Tb.enc, cells_enc, Ty.tc, h]; ((with_reducible first | refine finA hC ?_ | refine finD hC ?_); clear hC C)) | (with_reducible first | refine qqA fun K hK => ?_ | refine qqB fun K hK => ?_ | refine qqC fun K hK => ?_ | (refine qqD ?_; refine hK _ _ ?_; try clear hK K) | (refine qqE ?_; refine hK _ _ _ ?_ ?_; (focus kernel_rfl); try clear hK K) | (refine qqF ?_; refine hK _ _ ?_; try clear hK K) | refine qqG ?_ | refine qqH ?_ | refine qqI ?_ | refine qqJ ?_ | refine qqK ?_ | (refine qqL ?_; try clear hK K) | (refine qqM ?_; try clear hK K) | refine qqN ?_ | refine qqO ?_ | (refine qqP ?_ ?_; focus decide)) | ((with_reducible first | apply qqQ | apply qqR | apply qqS); focus (simp only [go_sem, pcells_tb, Tb.enc, cells_enc, Ty.tc, h]; exact rfl)) | (with_reducible first | refine gk_tt ?_ | refine gk_ff ?_ | refine ck_t ?_ | refine ck_f ?_) | ((with_reducible first | refine gk_tf ?_ | refine gk_ft ?_ | refine gk_u ?_ | refine gk_u' ?_); first | (intro _ e; (first | rw [qqY] at e | rw [qqZ] at e); subst e) | (intro _ _ e e'; (first | rw [qqY] at e | rw [qqZ] at e); subst e; subst e'))))
    (refine retP_ret (List.range 40) rfl ?_; exact vwA)
  | false =>
    (repeat' (first | ((first | (with_reducible refine qqV fun C hC => ?_) | (with_reducible refine qqW fun C hC => ?_) | ((with_reducible intro C hC); (with_reducible refine qqX ?_))); (first | (simp only [go_sem, pcells_tb, Tb.enc, cells_enc, Ty.tc, h]; (first | ((with_reducible apply ACall.pure0 [] (hc)); (focus (exact vwA)))))); (simp only [go_sem, pcells_tb, Tb.enc, cells_enc, Ty.tc, h]); ((with_reducible first | refine finA hC ?_ | refine finD hC ?_); clear hC C)) | ((with_reducible first | refine qqT fun C hC => ?_ | refine qqU fun C hC => ?_ | intro C hC); simp only [go_sem, pcells_tb, Tb.enc, cells_enc, Ty.tc, h]; ((with_reducible first | refine finA hC ?_ | refine finD hC ?_); clear hC C)) | (with_reducible first | refine qqA fun K hK => ?_ | refine qqB fun K hK => ?_ | refine qqC fun K hK => ?_ | (refine qqD ?_; refine hK _ _ ?_; try clear hK K) | (refine qqE ?_; refine hK _ _ _ ?_ ?_; (focus kernel_rfl); try clear hK K) | (refine qqF ?_; refine hK _ _ ?_; try clear hK K) | refine qqG ?_ | refine qqH ?_ | refine qqI ?_ | refine qqJ ?_ | refine qqK ?_ | (refine qqL ?_; try clear hK K) | (refine qqM ?_; try clear hK K) | refine qqN ?_ | refine qqO ?_ | (refine qqP ?_ ?_; focus decide)) | ((with_reducible first | apply qqQ | apply qqR | apply qqS); focus (simp only [go_sem, pcells_tb, Tb.enc, cells_enc, Ty.tc, h]; exact rfl)) | (with_reducible first | refine gk_tt ?_ | refine gk_ff ?_ | refine ck_t ?_ | refine ck_f ?_) | ((with_reducible first | refine gk_tf ?_ | refine gk_ft ?_ | refine gk_u ?_ | refine gk_u' ?_); first | (intro _ e; (first | rw [qqY] at e | rw [qqZ] at e); subst e) | (intro _ _ e e'; (first | rw [qqY] at e | rw [qqZ] at e); subst e; subst e'))))
    (refine retP_ret (List.range 40) rfl ?_; exact vwA)
def mImpV : Option (Nat × List Ty) → PV
  | none => .tup [ii (-1), .list 3 (encL [])]
  | some (i, xs) => .tup [ii i, .list 3 (encL xs)]
set_option maxHeartbeats 4000000 in
theorem mimp_ok (ds : List Dc) (az : List Tb) (t : Ty) (tr : Int) : PCall Try.prog 146 [.agg [.list 7 (encDc ds), .list 4 (encTb az)], t.enc, ii tr] (mImpV (mImp t tr ds 0)) := by
  have hgen : ∀ R r0 r1, mImpV (mImp t tr ds 0) = R → R = .tup [r0, r1] → PCall Try.prog 146 [.agg [.list 7 (encDc ds), .list 4 (encTb az)], t.enc, ii tr] R := by
    intro R r0 r1 hR hR'
    subst hR'
    refine PCall.intro' (ps := [r0, r1]) fn146 (by simp) fun hok => ?_
    have hss : ds.length ≤ 1099511627776 := by
      simp only [PV.okL, PV.ok, encDc_len, big] at hok; exact hok.1.1.1
    clear hok
    unfold ac146
    simp only [argFr]
    (repeat' (first | ((with_reducible first | refine qqT fun C hC => ?_ | refine qqU fun C hC => ?_ | intro C hC); simp only [go_sem, encDc_len, cells_enc, Ty.tc]; ((with_reducible first | refine finA hC ?_ | refine finD hC ?_); clear hC C)) | (with_reducible first | refine qqA fun K hK => ?_ | refine qqB fun K hK => ?_ | refine qqC fun K hK => ?_ | (refine qqD ?_; refine hK _ _ ?_; try clear hK K) | (refine qqE ?_; refine hK _ _ _ ?_ ?_; (focus kernel_rfl); try clear hK K) | (refine qqF ?_; refine hK _ _ ?_; try clear hK K) | refine qqG ?_ | refine qqH ?_ | refine qqI ?_ | refine qqJ ?_ | refine qqK ?_ | (refine qqL ?_; try clear hK K) | (refine qqM ?_; try clear hK K) | refine qqN ?_ | refine qqO ?_ | (refine qqP ?_ ?_; focus decide)) | ((with_reducible first | apply qqQ | apply qqR | apply qqS); focus (simp only [go_sem, encDc_len, cells_enc, Ty.tc]; exact rfl)) | (with_reducible first | refine gk_tt ?_ | refine gk_ff ?_ | refine ck_t ?_ | refine ck_f ?_) | ((with_reducible first | refine gk_tf ?_ | refine gk_ft ?_ | refine gk_u ?_ | refine gk_u' ?_); first | (intro _ e; (first | rw [qqY] at e | rw [qqZ] at e); subst e) | (intro _ _ e e'; (first | rw [qqY] at e | rw [qqZ] at e); subst e; subst e'))))
    have rows : ∀ (rest pre : List Dc), pre ++ rest = ds → mImp t tr ds 0 = mImp t tr rest pre.length → loopN (awp Try.prog ac146_l0) (catch_ 0 (thn K (retP [RV.tmp 6, RV.tmp 7] [r0, r1]))) (rest.length + 1)
       [(15, .pv (ii pre.length)), (14, .pv (ii ds.length)), (13, .pv (.list 7 (encDc ds))), (4, .ptr 1 0 0), (2, .pv (ii tr))]
       [some ⟨false, 107, 2, [[.pv (.list 7 (encDc ds)), .pv (.list 4 (encTb az))]], none⟩, some ⟨false, 26, 3, [[.pv (ii t.kd), .pv (ii t.id), .pv (.list 3 (encL t.args))]], none⟩] := by
      intro rest
      induction rest with
      | nil =>
        intro pre hpre hi
        have hpre : pre = ds := by simpa using hpre
        subst hpre
        refine loopN_k fun K1 hK1 => ?_
        unfold ac146_l0
        simp only [mImp] at hi
        rw [hi] at hR
        simp only [mImpV, PV.tup.injEq, List.cons.injEq, and_true] at hR
        obtain ⟨rfl, rfl⟩ := hR
        (repeat' (first | ((with_reducible first | refine qqT fun C hC => ?_ | refine qqU fun C hC => ?_ | intro C hC); simp only [go_sem, lt_end]; ((with_reducible first | refine finA hC ?_ | refine finD hC ?_); clear hC C)) | (with_reducible first | refine qqA fun K hK => ?_ | refine qqB fun K hK => ?_ | refine qqC fun K hK => ?_ | (refine qqD ?_; refine hK _ _ ?_; try clear hK K) | (refine qqE ?_; refine hK _ _ _ ?_ ?_; (focus kernel_rfl); try clear hK K) | (refine qqF ?_; refine hK _ _ ?_; try clear hK K) | refine qqG ?_ | refine qqH ?_ | refine qqI ?_ | refine qqJ ?_ | refine qqK ?_ | (refine qqL ?_; try clear hK K) | (refine qqM ?_; try clear hK K) | refine qqN ?_ | refine qqO ?_ | (refine qqP ?_ ?_; focus decide)) | ((with_reducible first | apply qqQ | apply qqR | apply qqS); focus (simp only [go_sem, lt_end]; exact rfl)) | (with_reducible first | refine gk_tt ?_ | refine gk_ff ?_ | refine ck_t ?_ | refine ck_f ?_) | ((with_reducible first | refine gk_tf ?_ | refine gk_ft ?_ | refine gk_u ?_ | refine gk_u' ?_); first | (intro _ e; (first | rw [qqY] at e | rw [qqZ] at e); subst e) | (intro _ _ e e'; (first | rw [qqY] at e | rw [qqZ] at e); subst e; subst e'))))
        (refine retP_ret (List.range 40) rfl ?_; exact vwA)
      | cons d rest ih =>
        intro pre hpre hi
        have hlt : decide ((pre.length : Int) < (ds.length : Int)) = true := by subst hpre; exact lt_app _ _ _
        have hat : (encDc ds)[pre.length]? = some d.enc := by subst hpre; exact encDc_at _ _ _
        have hb : pre.length + 1 ≤ big := by have := congrArg List.length hpre; simp at this; unfold big; omega
        have hw := wrapS (n := pre.length) (by unfold big at hb; omega)
        have ho := hasJ_ok 179 [.rptr [.list 1 (encI d.ps), ii d.t.kd, ii d.t.id, .list 3 (encL d.t.args), ii d.tr, .list 4 (encTb d.bs), d.ms]] (fun p => !occP p d.t) d.ps (fun p _ => noc_ok p d)
        have hm := Match_ok t d.t d.ps
        refine loopN_k fun K1 hK1 => ?_
        unfold ac146_l0
        have hskip : okD t tr d = false → mImp t tr ds 0 = mImp t tr rest (pre ++ [d]).length := fun h => by
          rw [hi]; simp only [mImp, h, Bool.false_eq_true, if_false, List.length_append, List.length_singleton]
        cases h1 : (d.tr == tr) with
        | false =>
          have h1' : (d.tr != tr) = true := by simp only [bne, h1]; rfl
          (repeat' (first | ((with_reducible first | refine qqT fun C hC => ?_ | refine qqU fun C hC => ?_ | intro C hC); simp only [go_sem, hlt, hat, pcells_dc, h1']; ((with_reducible first | refine finA hC ?_ | refine finD hC ?_); clear hC C)) | (with_reducible first | refine qqA fun K hK => ?_ | refine qqB fun K hK => ?_ | refine qqC fun K hK => ?_ | (refine qqD ?_; refine hK _ _ ?_; try clear hK K) | (refine qqE ?_; refine hK _ _ _ ?_ ?_; (focus kernel_rfl); try clear hK K) | (refine qqF ?_; refine hK _ _ ?_; try clear hK K) | refine qqG ?_ | refine qqH ?_ | refine qqI ?_ | refine qqJ ?_ | refine qqK ?_ | (refine qqL ?_; try clear hK K) | (refine qqM ?_; try clear hK K) | refine qqN ?_ | refine qqO ?_ | (refine qqP ?_ ?_; focus decide)) | ((with_reducible first | apply qqQ | apply qqR | apply qqS); focus (simp only [go_sem, hlt, hat, pcells_dc, h1']; exact rfl)) | (with_reducible first | refine gk_tt ?_ | refine gk_ff ?_ | refine ck_t ?_ | refine ck_f ?_) | ((with_reducible first | refine gk_tf ?_ | refine gk_ft ?_ | refine gk_u ?_ | refine gk_u' ?_); first | (intro _ e; (first | rw [qqY] at e | rw [qqZ] at e); subst e) | (intro _ _ e e'; (first | rw [qqY] at e | rw [qqZ] at e); subst e; subst e'))))
          refine qqF ?_
          refine hK1 _ _ _ _ _ (LeB [0, 1] (by refine ⟨?_, ?_, ?_⟩ <;> simp only [leFr, leFb, leHp, V.ren, V.renL, V.bd, V.bdL, allL, lt, Go.Ab.get, hget, List.map_cons, List.map_nil, List.length_cons, List.length_nil, List.length_append, List.getElem?_cons_zero, List.getElem?_cons_succ, List.getElem?_nil, Option.join_some, Option.join_none, List.getD_cons_zero, List.getD_cons_succ, List.getD_nil, Nat.reduceAdd, Nat.reduceLT, Nat.reduceEqDiff, Nat.zero_add, reduceIte, if_true, if_false, and_true, true_and, renL_vcells, allL_vcells, renL_pv, leBlk_some, eq_self, true_or, or_true, reduceCtorEq, false_or, hw, List.length_append])) (ih (pre ++ [d]) (by simp [hpre]) (hskip (by simp [okD, h1])))
        | true =>
          have h1' : (d.tr != tr) = false := by simp only [bne, h1]; rfl
          cases h2 : (d.ps.any fun p => !occP p d.t) with
          | true =>
            rw [h2] at ho
            (repeat' (first | ((first | (with_reducible refine qqV fun C hC => ?_) | (with_reducible refine qqW fun C hC => ?_) | ((with_reducible intro C hC); (with_reducible refine qqX ?_))); (first | (simp only [go_sem, hlt, hat, pcells_dc, h1']; (first | ((with_reducible apply ACall.pure0 [2] (ho)); (focus (exact vwA)))))); (simp only [go_sem, hlt, hat, pcells_dc, h1']); ((with_reducible first | refine finA hC ?_ | refine finD hC ?_); clear hC C)) | ((with_reducible first | refine qqT fun C hC => ?_ | refine qqU fun C hC => ?_ | intro C hC); simp only [go_sem, hlt, hat, pcells_dc, h1']; ((with_reducible first | refine finA hC ?_ | refine finD hC ?_); clear hC C)) | (with_reducible first | refine qqA fun K hK => ?_ | refine qqB fun K hK => ?_ | refine qqC fun K hK => ?_ | (refine qqD ?_; refine hK _ _ ?_; try clear hK K) | (refine qqE ?_; refine hK _ _ _ ?_ ?_; (focus kernel_rfl); try clear hK K) | (refine qqF ?_; refine hK _ _ ?_; try clear hK K) | refine qqG ?_ | refine qqH ?_ | refine qqI ?_ | refine qqJ ?_ | refine qqK ?_ | (refine qqL ?_; try clear hK K) | (refine qqM ?_; try clear hK K) | refine qqN ?_ | refine qqO ?_ | (refine qqP ?_ ?_; focus decide)) | ((with_reducible first | apply qqQ | apply qqR | apply qqS); focus (simp only [go_sem, hlt, hat, pcells_dc, h1']; exact rfl)) | (with_reducible first | refine gk_tt ?_ | refine gk_ff ?_ | refine ck_t ?_ | refine ck_f ?_) | ((with_reducible first | refine gk_tf ?_ | refine gk_ft ?_ | refine gk_u ?_ | refine gk_u' ?_); first | (intro _ e; (first | rw [qqY] at e | rw [qqZ] at e); subst e) | (intro _ _ e e'; (first | rw [qqY] at e | rw [qqZ] at e); subst e; subst e'))))
            refine qqF ?_
            refine hK1 _ _ _ _ _ (LeB [0, 1] (by refine ⟨?_, ?_, ?_⟩ <;> simp only [leFr, leFb, leHp, V.ren, V.renL, V.bd, V.bdL, allL, lt, Go.Ab.get, hget, List.map_cons, List.map_nil, List.length_cons, List.length_nil, List.length_append, List.getElem?_cons_zero, List.getElem?_cons_succ, List.getElem?_nil, Option.join_some, Option.join_none, List.getD_cons_zero, List.getD_cons_succ, List.getD_nil, Nat.reduceAdd, Nat.reduceLT, Nat.reduceEqDiff, Nat.zero_add, reduceIte, if_true, if_false, and_true, true_and, renL_vcells, allL_vcells, renL_pv, leBlk_some, eq_self, true_or, or_true, reduceCtorEq, false_or, hw, List.length_append])) (ih (pre ++ [d]) (by simp [hpre]) (hskip (by simp [okD, h1, h2])))
          | false =>
            rw [h2] at ho
            cases h3 : (matchR d.ps t d.t).1 with
            | false =>
              rw [h3] at hm
              (repeat' (first | ((first | (with_reducible refine qqV fun C hC => ?_) | (with_reducible refine qqW fun C hC => ?_) | ((with_reducible intro C hC); (with_reducible refine qqX ?_))); (first | (simp only [go_sem, hlt, hat, pcells_dc, h1', cells_enc, Ty.tc]; (first | ((with_reducible apply ACall.pure0 [2] (ho)); (focus (exact vwA))) | ((with_reducible apply ACall.pure0 [] (hm)); (focus (exact vwA)))))); (simp only [go_sem, hlt, hat, pcells_dc, h1', cells_enc, Ty.tc]); ((with_reducible first | refine finA hC ?_ | refine finD hC ?_); clear hC C)) | ((with_reducible first | refine qqT fun C hC => ?_ | refine qqU fun C hC => ?_ | intro C hC); simp only [go_sem, hlt, hat, pcells_dc, h1', cells_enc, Ty.tc]; ((with_reducible first | refine finA hC ?_ | refine finD hC ?_); clear hC C)) | (with_reducible first | refine qqA fun K hK => ?_ | refine qqB fun K hK => ?_ | refine qqC fun K hK => ?_ | (refine qqD ?_; refine hK _ _ ?_; try clear hK K) | (refine qqE ?_; refine hK _ _ _ ?_ ?_; (focus kernel_rfl); try clear hK K) | (refine qqF ?_; refine hK _ _ ?_; try clear hK K) | refine qqG ?_ | refine qqH ?_ | refine qqI ?_ | refine qqJ ?_ | refine qqK ?_ | (refine qqL ?_; try clear hK K) | (refine qqM ?_; try clear hK K) | refine qqN ?_ | refine qqO ?_ | (refine qqP ?_ ?_; focus decide)) | ((with_reducible first | apply qqQ | apply qqR | apply qqS); focus (simp only [go_sem, hlt, hat, pcells_dc, h1', cells_enc, Ty.tc]; exact rfl)) | (with_reducible first | refine gk_tt ?_ | refine gk_ff ?_ | refine ck_t ?_ | refine ck_f ?_) | ((with_reducible first | refine gk_tf ?_ | refine gk_ft ?_ | refine gk_u ?_ | refine gk_u' ?_); first | (intro _ e; (first | rw [qqY] at e | rw [qqZ] at e); subst e) | (intro _ _ e e'; (first | rw [qqY] at e | rw [qqZ] at e); subst e; subst e'))))
              refine qqF ?_
              refine hK1 _ _ _ _ _ (LeB [0, 1] (by refine ⟨?_, ?_, ?_⟩ <;> simp only [leFr, leFb, leHp, V.ren, V.renL, V.bd, V.bdL, allL, lt, Go.Ab.get, hget, List.map_cons, List.map_nil, List.length_cons, List.length_nil, List.length_append, List.getElem?_cons_zero, List.getElem?_cons_succ, List.getElem?_nil, Option.join_some, Option.join_none, List.getD_cons_zero, List.getD_cons_succ, List.getD_nil, Nat.reduceAdd, Nat.reduceLT, Nat.reduceEqDiff, Nat.zero_add, reduceIte, if_true, if_false, and_true, true_and, renL_vcells, allL_vcells, renL_pv, leBlk_some, eq_self, true_or, or_true, reduceCtorEq, false_or, hw, List.length_append])) (ih (pre ++ [d]) (by simp [hpre]) (hskip (by simp [okD, h1, h2, h3])))
            | true =>
              rw [h3] at hm
              have hv : mImp t tr ds 0 = some (pre.length, (matchR d.ps t d.t).2) := by
                rw [hi]; simp [mImp, okD, h1, h2, h3]
              rw [hv] at hR
              simp only [mImpV, PV.tup.injEq, List.cons.injEq, and_true] at hR
              obtain ⟨rfl, rfl⟩ := hR
              (repeat' (first | ((first | (with_reducible refine qqV fun C hC => ?_) | (with_reducible refine qqW fun C hC => ?_) | ((with_reducible intro C hC); (with_reducible refine qqX ?_))); (first | (simp only [go_sem, hlt, hat, pcells_dc, h1', cells_enc, Ty.tc]; (first | ((with_reducible apply ACall.pure0 [2] (ho)); (focus (exact vwA))) | ((with_reducible apply ACall.pure0 [] (hm)); (focus (exact vwA)))))); (simp only [go_sem, hlt, hat, pcells_dc, h1', cells_enc, Ty.tc]); ((with_reducible first | refine finA hC ?_ | refine finD hC ?_); clear hC C)) | ((with_reducible first | refine qqT fun C hC => ?_ | refine qqU fun C hC => ?_ | intro C hC); simp only [go_sem, hlt, hat, pcells_dc, h1', cells_enc, Ty.tc]; ((with_reducible first | refine finA hC ?_ | refine finD hC ?_); clear hC C)) | (with_reducible first | refine qqA fun K hK => ?_ | refine qqB fun K hK => ?_ | refine qqC fun K hK => ?_ | (refine qqD ?_; refine hK _ _ ?_; try clear hK K) | (refine qqE ?_; refine hK _ _ _ ?_ ?_; (focus kernel_rfl); try clear hK K) | (refine qqF ?_; refine hK _ _ ?_; try clear hK K) | refine qqG ?_ | refine qqH ?_ | refine qqI ?_ | refine qqJ ?_ | refine qqK ?_ | (refine qqL ?_; try clear hK K) | (refine qqM ?_; try clear hK K) | refine qqN ?_ | refine qqO ?_ | (refine qqP ?_ ?_; focus decide)) | ((with_reducible first | apply qqQ | apply qqR | apply qqS); focus (simp only [go_sem, hlt, hat, pcells_dc, h1', cells_enc, Ty.tc]; exact rfl)) | (with_reducible first | refine gk_tt ?_ | refine gk_ff ?_ | refine ck_t ?_ | refine ck_f ?_) | ((with_reducible first | refine gk_tf ?_ | refine gk_ft ?_ | refine gk_u ?_ | refine gk_u' ?_); first | (intro _ e; (first | rw [qqY] at e | rw [qqZ] at e); subst e) | (intro _ _ e e'; (first | rw [qqY] at e | rw [qqZ] at e); subst e; subst e'))))
              (refine retP_ret (List.range 40) rfl ?_; exact vwA)
    refine awp_loop_k _ (LeB [0, 1] (by refine ⟨?_, ?_, ?_⟩ <;> simp only [leFr, leFb, leHp, V.ren, V.renL, V.bd, V.bdL, allL, lt, Go.Ab.get, hget, List.map_cons, List.map_nil, List.length_cons, List.length_nil, List.length_append, List.getElem?_cons_zero, List.getElem?_cons_succ, List.getElem?_nil, Option.join_some, Option.join_none, List.getD_cons_zero, List.getD_cons_succ, List.getD_nil, Nat.reduceAdd, Nat.reduceLT, Nat.reduceEqDiff, Nat.zero_add, reduceIte, if_true, if_false, and_true, true_and, renL_vcells, allL_vcells, renL_pv, leBlk_some, eq_self, true_or, or_true, reduceCtorEq, false_or, c0])) (rows ds [] rfl rfl)
  cases h : mImp t tr ds 0 with
  | none => rw [h] at hgen; exact hgen _ _ _ rfl rfl
  | some x => obtain ⟨i, xs⟩ := x; rw [h] at hgen; exact hgen _ _ _ rfl rfl
end Go.Proofs.Ytbdoblgofddhdaa
/- Traits: solve. -/
set_option maxRecDepth 10000
set_option linter.unusedSimpArgs false
set_option linter.unusedVariables false
namespace Go.Proofs.Ytbdoblgofddhdaa
open Go Go.Ab
theorem Vw_ptc {h : HF} {B : List Nat} (p : Prf) : VwL h B p.tc [ii p.t.kd, ii p.t.id, .list 3 (encL p.t.args), ii p.tr, ii p.im, ii p.bd, .list 3 (encL p.az), .list 8 (encPf p.ps)] :=
  .cons _ _ _ _ (.pv _) (.cons _ _ _ _ (.pv _) (.cons _ _ _ _ (.pv _) (.cons _ _ _ _ (.pv _) (.cons _ _ _ _ (.pv _) (.cons _ _ _ _ (.pv _) (.cons _ _ _ _ (.pv _) (.cons _ _ _ _ (.pv _) .nil)))))))
theorem VwE_ptc {h : HF} {B : List Nat} : ∀ (ts : List Prf), VwE h B 8 (ts.map Prf.tc) (encPf ts)
  | [] => .nil _
  | t :: ts => .cons _ _ _ _ _ (by rw [pcells_prf]; rfl) (by rw [pcells_prf]; exact Vw_ptc t) (VwE_ptc ts)
theorem row_prf {h : HF} {B : List Nat} {b n : Nat} {fl ro : Bool} {ty : Nat} {xs : List Prf} {tg : Option (Nat × Nat × Nat)} (hb : b ∈ B) (hk : h b = some ⟨ro, ty, 8, xs.map Prf.tc, tg⟩) (hn : n = xs.length) : Vw h B (.row b n fl) (.list 8 (encPf xs)) :=
  row_view hb hk (by simp [hn]) (VwE_ptc xs)
theorem renL_ptc {ρ : Nat → Nat} (ts : List Prf) : (ts.map Prf.tc).map (V.renL ρ) = ts.map Prf.tc := by
  rw [List.map_map]; exact List.map_congr_left fun p _ => rfl
theorem allL_ptc {S : Nat → Prop} (ts : List Prf) : allL S (ts.map Prf.tc) = True := by
  simp only [allL_iff, eq_iff_iff, iff_true]
  intro cs hcs
  obtain ⟨p, _, rfl⟩ := List.mem_map.1 hcs
  simp [Prf.tc, V.bdL, V.bd]
def solV : Option Prf → PV
  | none => .tup [zP.enc, bb false]
  | some p => .tup [p.enc, bb true]
theorem scal_prf (t : Prf) : t.enc.scal = false := by cases t; rfl
theorem solL_app {f : Ty → Int → Option Prf} {ps : List Int} {xs : List Ty} {b : Tb} : ∀ {pre : List Tb} {rest : List Tb} {qs : List Prf}, solL f ps xs pre = some qs →
    solL f ps xs (pre ++ b :: rest) = match f (appT ps xs b.t) b.tr with | none => none | some q => match solL f ps xs rest with | none => none | some r => some (qs ++ q :: r)
  | [], rest, qs, h => by
    simp only [solL, Option.some.injEq] at h
    subst h
    simp only [List.nil_append, solL]
    cases f (appT ps xs b.t) b.tr with
    | none => rfl
    | some q => cases solL f ps xs rest <;> rfl
  | c :: pre, rest, qs, h => by
    simp only [solL] at h
    cases h1 : f (appT ps xs c.t) c.tr with
    | none => rw [h1] at h; cases h
    | some q1 =>
      rw [h1] at h
      cases h2 : solL f ps xs pre with
      | none => rw [h2] at h; cases h
      | some q2 =>
        rw [h2] at h
        simp only [Option.some.injEq] at h
        subst h
        simp only [List.cons_append, solL, h1]
        rw [solL_app (pre := pre) h2]
        cases f (appT ps xs b.t) b.tr with
        | none => rfl
        | some q =>
          cases solL f ps xs rest <;> rfl
set_option maxHeartbeats 8000000 in
theorem solve_ok (ds : List Dc) (az : List Tb) : ∀ (n : Nat), n ≤ 1000 → ∀ (t : Ty) (tr : Int), PCall Try.prog 77 [.agg [.list 7 (encDc ds), .list 4 (encTb az)], t.enc, ii tr, ii n] (solV (sol ds az n t tr)) := by
  intro n
  induction n with
  | zero =>
    intro hn t tr
    refine PCall.intro (ps := [zP.enc, bb false]) fn77 (by simp) ?_
    unfold ac77
    simp only [argFr]
    cases h0 : (t.kd == 0) with
    | true =>
      (repeat' (first | ((with_reducible first | refine qqT fun C hC => ?_ | refine qqU fun C hC => ?_ | intro C hC); simp only [go_sem, cells_enc, Ty.tc, h0]; ((with_reducible first | refine finA hC ?_ | refine finD hC ?_); clear hC C)) | (with_reducible first | refine qqA fun K hK => ?_ | refine qqB fun K hK => ?_ | refine qqC fun K hK => ?_ | (refine qqD ?_; refine hK _ _ ?_; try clear hK K) | (refine qqE ?_; refine hK _ _ _ ?_ ?_; (focus kernel_rfl); try clear hK K) | (refine qqF ?_; refine hK _ _ ?_; try clear hK K) | refine qqG ?_ | refine qqH ?_ | refine qqI ?_ | refine qqJ ?_ | refine qqK ?_ | (refine qqL ?_; try clear hK K) | (refine qqM ?_; try clear hK K) | refine qqN ?_ | refine qqO ?_ | (refine qqP ?_ ?_; focus decide)) | ((with_reducible first | apply qqQ | apply qqR | apply qqS); focus (simp only [go_sem, cells_enc, Ty.tc, h0]; exact rfl)) | (with_reducible first | refine gk_tt ?_ | refine gk_ff ?_ | refine ck_t ?_ | refine ck_f ?_) | ((with_reducible first | refine gk_tf ?_ | refine gk_ft ?_ | refine gk_u ?_ | refine gk_u' ?_); first | (intro _ e; (first | rw [qqY] at e | rw [qqZ] at e); subst e) | (intro _ _ e e'; (first | rw [qqY] at e | rw [qqZ] at e); subst e; subst e'))))
      (refine retP_ret (List.range 40) rfl ?_; (try simp only [zP, Prf.enc, encL, encPf, zT, if_true, if_false, Bool.false_eq_true, Bool.not_true, Bool.not_false]); exact vwA)
    | false =>
      cases h1 : decide (tr < 0) with
      | true =>
        (repeat' (first | ((with_reducible first | refine qqT fun C hC => ?_ | refine qqU fun C hC => ?_ | intro C hC); simp only [go_sem, cells_enc, Ty.tc, h0, h1]; ((with_reducible first | refine finA hC ?_ | refine finD hC ?_); clear hC C)) | (with_reducible first | refine qqA fun K hK => ?_ | refine qqB fun K hK => ?_ | refine qqC fun K hK => ?_ | (refine qqD ?_; refine hK _ _ ?_; try clear hK K) | (refine qqE ?_; refine hK _ _ _ ?_ ?_; (focus kernel_rfl); try clear hK K) | (refine qqF ?_; refine hK _ _ ?_; try clear hK K) | refine qqG ?_ | refine qqH ?_ | refine qqI ?_ | refine qqJ ?_ | refine qqK ?_ | (refine qqL ?_; try clear hK K) | (refine qqM ?_; try clear hK K) | refine qqN ?_ | refine qqO ?_ | (refine qqP ?_ ?_; focus decide)) | ((with_reducible first | apply qqQ | apply qqR | apply qqS); focus (simp only [go_sem, cells_enc, Ty.tc, h0, h1]; exact rfl)) | (with_reducible first | refine gk_tt ?_ | refine gk_ff ?_ | refine ck_t ?_ | refine ck_f ?_) | ((with_reducible first | refine gk_tf ?_ | refine gk_ft ?_ | refine gk_u ?_ | refine gk_u' ?_); first | (intro _ e; (first | rw [qqY] at e | rw [qqZ] at e); subst e) | (intro _ _ e e'; (first | rw [qqY] at e | rw [qqZ] at e); subst e; subst e'))))
        (refine retP_ret (List.range 40) rfl ?_; (try simp only [zP, Prf.enc, encL, encPf, zT, if_true, if_false, Bool.false_eq_true, Bool.not_true, Bool.not_false]); exact vwA)
      | false =>
        (repeat' (first | ((with_reducible first | refine qqT fun C hC => ?_ | refine qqU fun C hC => ?_ | intro C hC); simp only [go_sem, cells_enc, Ty.tc, h0, h1, c0, beq_self_eq_true]; ((with_reducible first | refine finA hC ?_ | refine finD hC ?_); clear hC C)) | (with_reducible first | refine qqA fun K hK => ?_ | refine qqB fun K hK => ?_ | refine qqC fun K hK => ?_ | (refine qqD ?_; refine hK _ _ ?_; try clear hK K) | (refine qqE ?_; refine hK _ _ _ ?_ ?_; (focus kernel_rfl); try clear hK K) | (refine qqF ?_; refine hK _ _ ?_; try clear hK K) | refine qqG ?_ | refine qqH ?_ | refine qqI ?_ | refine qqJ ?_ | refine qqK ?_ | (refine qqL ?_; try clear hK K) | (refine qqM ?_; try clear hK K) | refine qqN ?_ | refine qqO ?_ | (refine qqP ?_ ?_; focus decide)) | ((with_reducible first | apply qqQ | apply qqR | apply qqS); focus (simp only [go_sem, cells_enc, Ty.tc, h0, h1, c0, beq_self_eq_true]; exact rfl)) | (with_reducible first | refine gk_tt ?_ | refine gk_ff ?_ | refine ck_t ?_ | refine ck_f ?_) | ((with_reducible first | refine gk_tf ?_ | refine gk_ft ?_ | refine gk_u ?_ | refine gk_u' ?_); first | (intro _ e; (first | rw [qqY] at e | rw [qqZ] at e); subst e) | (intro _ _ e e'; (first | rw [qqY] at e | rw [qqZ] at e); subst e; subst e'))))
        (refine retP_ret (List.range 40) rfl ?_; (try simp only [zP, Prf.enc, encL, encPf, zT, if_true, if_false, Bool.false_eq_true, Bool.not_true, Bool.not_false]); exact vwA)
  | succ n ihn =>
    intro hn t tr
    have ihn := ihn (by omega)
    have hz : (((n + 1 : Nat) : Int) == 0) = false := by rw [beq_eq_false_iff_ne]; omega
    have hw1 : IntKind.i64.wrap (((n + 1 : Nat) : Int) - 1) = (n : Int) := by rw [IntWalk.i64_in _ (by omega)]; omega
    have hgen : ∀ r0 r1, solV (sol ds az (n + 1) t tr) = .tup [r0, r1] → PCall Try.prog 77 [.agg [.list 7 (encDc ds), .list 4 (encTb az)], t.enc, ii tr, ii (n + 1 : Nat)] (.tup [r0, r1]) := by
      intro r0 r1 hR
      have hN : sol ds az (n + 1) t tr = none → r0 = zP.enc ∧ r1 = bb false := fun h => by
        rw [h] at hR; simp only [solV, PV.tup.injEq, List.cons.injEq, and_true] at hR; exact ⟨hR.1.symm, hR.2.symm⟩
      have hS : ∀ p, sol ds az (n + 1) t tr = some p → r0 = p.enc ∧ r1 = bb true := fun p h => by
        rw [h] at hR; simp only [solV, PV.tup.injEq, List.cons.injEq, and_true] at hR; exact ⟨hR.1.symm, hR.2.symm⟩
      clear hR
      refine PCall.intro' (ps := [r0, r1]) fn77 (by simp) fun hok => ?_
      have hbs : ∀ d ∈ ds, d.bs.length ≤ 1099511627776 := by
        intro d hd
        simp only [PV.okL, PV.ok, big] at hok
        have : ∀ {l : List Dc}, PV.okL (encDc l) → ∀ d ∈ l, d.bs.length ≤ 1099511627776 := by
          intro l
          induction l with
          | nil => intro _ d hd; cases hd
          | cons x l ih =>
            intro h d hd
            simp only [encDc, List.map_cons, PV.okL] at h
            rcases List.mem_cons.1 hd with rfl | hd
            · have := h.1
              simp only [Dc.enc, PV.ok, PV.okL, encTb_len, big] at this
              exact this.2.2.2.2.2.1.1
            · exact ih h.2 d hd
        exact this hok.1.1.2 d hd
      clear hok
      have hix := idxTb_ok 145 [.rptr [ii tr], .rptr [ii t.kd, ii t.id, .list 3 (encL t.args)]] (fun b : Tb => if b.tr == tr then eqT b.t t else false) az (fun b _ => ebd_ok b t tr)
      rw [show idxF (fun b : Tb => if b.tr == tr then eqT b.t t else false) az 0 = bdF az t tr from rfl] at hix
      have hcl := clone_ok t
      have hmi := mimp_ok ds az t tr
      unfold ac77
      simp only [argFr]
      cases h0 : (t.kd == 0) with
      | true =>
        obtain ⟨rfl, rfl⟩ := hN (by simp [sol, h0])
        (repeat' (first | ((with_reducible first | refine qqT fun C hC => ?_ | refine qqU fun C hC => ?_ | intro C hC); simp only [go_sem, cells_enc, Ty.tc, h0]; ((with_reducible first | refine finA hC ?_ | refine finD hC ?_); clear hC C)) | (with_reducible first | refine qqA fun K hK => ?_ | refine qqB fun K hK => ?_ | refine qqC fun K hK => ?_ | (refine qqD ?_; refine hK _ _ ?_; try clear hK K) | (refine qqE ?_; refine hK _ _ _ ?_ ?_; (focus kernel_rfl); try clear hK K) | (refine qqF ?_; refine hK _ _ ?_; try clear hK K) | refine qqG ?_ | refine qqH ?_ | refine qqI ?_ | refine qqJ ?_ | refine qqK ?_ | (refine qqL ?_; try clear hK K) | (refine qqM ?_; try clear hK K) | refine qqN ?_ | refine qqO ?_ | (refine qqP ?_ ?_; focus decide)) | ((with_reducible first | apply qqQ | apply qqR | apply qqS); focus (simp only [go_sem, cells_enc, Ty.tc, h0]; exact rfl)) | (with_reducible first | refine gk_tt ?_ | refine gk_ff ?_ | refine ck_t ?_ | refine ck_f ?_) | ((with_reducible first | refine gk_tf ?_ | refine gk_ft ?_ | refine gk_u ?_ | refine gk_u' ?_); first | (intro _ e; (first | rw [qqY] at e | rw [qqZ] at e); subst e) | (intro _ _ e e'; (first | rw [qqY] at e | rw [qqZ] at e); subst e; subst e'))))
        (refine retP_ret (List.range 40) rfl ?_; (try simp only [zP, Prf.enc, encL, encPf, zT, if_true, if_false, Bool.false_eq_true, Bool.not_true, Bool.not_false]); exact vwA)
      | false =>
        cases h1 : decide (tr < 0) with
        | true =>
          obtain ⟨rfl, rfl⟩ := hN (by simp only [sol, h0, h1, if_true, Bool.false_eq_true, if_false])
          (repeat' (first | ((with_reducible first | refine qqT fun C hC => ?_ | refine qqU fun C hC => ?_ | intro C hC); simp only [go_sem, cells_enc, Ty.tc, h0, h1]; ((with_reducible first | refine finA hC ?_ | refine finD hC ?_); clear hC C)) | (with_reducible first | refine qqA fun K hK => ?_ | refine qqB fun K hK => ?_ | refine qqC fun K hK => ?_ | (refine qqD ?_; refine hK _ _ ?_; try clear hK K) | (refine qqE ?_; refine hK _ _ _ ?_ ?_; (focus kernel_rfl); try clear hK K) | (refine qqF ?_; refine hK _ _ ?_; try clear hK K) | refine qqG ?_ | refine qqH ?_ | refine qqI ?_ | refine qqJ ?_ | refine qqK ?_ | (refine qqL ?_; try clear hK K) | (refine qqM ?_; try clear hK K) | refine qqN ?_ | refine qqO ?_ | (refine qqP ?_ ?_; focus decide)) | ((with_reducible first | apply qqQ | apply qqR | apply qqS); focus (simp only [go_sem, cells_enc, Ty.tc, h0, h1]; exact rfl)) | (with_reducible first | refine gk_tt ?_ | refine gk_ff ?_ | refine ck_t ?_ | refine ck_f ?_) | ((with_reducible first | refine gk_tf ?_ | refine gk_ft ?_ | refine gk_u ?_ | refine gk_u' ?_); first | (intro _ e; (first | rw [qqY] at e | rw [qqZ] at e); subst e) | (intro _ _ e e'; (first | rw [qqY] at e | rw [qqZ] at e); subst e; subst e'))))
          (refine retP_ret (List.range 40) rfl ?_; (try simp only [zP, Prf.enc, encL, encPf, zT, if_true, if_false, Bool.false_eq_true, Bool.not_true, Bool.not_false]); exact vwA)
        | false =>
          have hsol : sol ds az (n + 1) t tr = if decide (bdF az t tr ≥ 0) then some (.mk t tr (-1) (bdF az t tr) [] []) else
              match mImp t tr ds 0 with
              | none => none
              | some (i, xs) => match ds[i]? with
                | none => none
                | some d => if decide ((d.bs.length : Int) > 4) then none else match solL (sol ds az n) d.ps xs d.bs with
                  | none => none
                  | some ps => some (.mk t tr i (-1) xs ps) := by
            simp only [sol, h0, h1, Bool.false_eq_true, if_false]
            rfl
          cases h2 : decide (bdF az t tr ≥ 0) with
          | true =>
            obtain ⟨rfl, rfl⟩ := hS _ (by rw [hsol, h2, if_pos rfl])
            (repeat' (first | ((first | (with_reducible refine qqV fun C hC => ?_) | (with_reducible refine qqW fun C hC => ?_) | ((with_reducible intro C hC); (with_reducible refine qqX ?_))); (first | (simp only [go_sem, cells_enc, Ty.tc, h0, h1, hz, h2]; (first | ((with_reducible apply ACall.pure0 [1, 2] (hix)); (focus (exact vwA))) | ((with_reducible apply ACall.pure0 [] (hcl)); (focus (exact vwA)))))); (simp only [go_sem, cells_enc, Ty.tc, h0, h1, hz, h2]); ((with_reducible first | refine finA hC ?_ | refine finD hC ?_); clear hC C)) | ((with_reducible first | refine qqT fun C hC => ?_ | refine qqU fun C hC => ?_ | intro C hC); simp only [go_sem, cells_enc, Ty.tc, h0, h1, hz, h2]; ((with_reducible first | refine finA hC ?_ | refine finD hC ?_); clear hC C)) | (with_reducible first | refine qqA fun K hK => ?_ | refine qqB fun K hK => ?_ | refine qqC fun K hK => ?_ | (refine qqD ?_; refine hK _ _ ?_; try clear hK K) | (refine qqE ?_; refine hK _ _ _ ?_ ?_; (focus kernel_rfl); try clear hK K) | (refine qqF ?_; refine hK _ _ ?_; try clear hK K) | refine qqG ?_ | refine qqH ?_ | refine qqI ?_ | refine qqJ ?_ | refine qqK ?_ | (refine qqL ?_; try clear hK K) | (refine qqM ?_; try clear hK K) | refine qqN ?_ | refine qqO ?_ | (refine qqP ?_ ?_; focus decide)) | ((with_reducible first | apply qqQ | apply qqR | apply qqS); focus (simp only [go_sem, cells_enc, Ty.tc, h0, h1, hz, h2]; exact rfl)) | (with_reducible first | refine gk_tt ?_ | refine gk_ff ?_ | refine ck_t ?_ | refine ck_f ?_) | ((with_reducible first | refine gk_tf ?_ | refine gk_ft ?_ | refine gk_u ?_ | refine gk_u' ?_); first | (intro _ e; (first | rw [qqY] at e | rw [qqZ] at e); subst e) | (intro _ _ e e'; (first | rw [qqY] at e | rw [qqZ] at e); subst e; subst e'))))
            (refine retP_ret (List.range 40) rfl ?_; (try simp only [Prf.enc, encL, encPf, if_true, if_false, Bool.false_eq_true, Bool.not_true, Bool.not_false]); exact vwA)
          | false =>
            rw [h2, if_neg (by simp)] at hsol
            cases h3 : mImp t tr ds 0 with
            | none =>
              rw [h3] at hmi hsol
              simp only [mImpV] at hmi
              obtain ⟨rfl, rfl⟩ := hN hsol
              (repeat' (first | ((first | (with_reducible refine qqV fun C hC => ?_) | (with_reducible refine qqW fun C hC => ?_) | ((with_reducible intro C hC); (with_reducible refine qqX ?_))); (first | (simp only [go_sem, cells_enc, Ty.tc, h0, h1, hz, h2]; (first | ((with_reducible apply ACall.pure0 [1, 2] (hix)); (focus (exact vwA))) | ((with_reducible apply ACall.pure0 [] (hmi)); (focus (exact vwA)))))); (simp only [go_sem, cells_enc, Ty.tc, h0, h1, hz, h2]); ((with_reducible first | refine finA hC ?_ | refine finD hC ?_); clear hC C)) | ((with_reducible first | refine qqT fun C hC => ?_ | refine qqU fun C hC => ?_ | intro C hC); simp only [go_sem, cells_enc, Ty.tc, h0, h1, hz, h2]; ((with_reducible first | refine finA hC ?_ | refine finD hC ?_); clear hC C)) | (with_reducible first | refine qqA fun K hK => ?_ | refine qqB fun K hK => ?_ | refine qqC fun K hK => ?_ | (refine qqD ?_; refine hK _ _ ?_; try clear hK K) | (refine qqE ?_; refine hK _ _ _ ?_ ?_; (focus kernel_rfl); try clear hK K) | (refine qqF ?_; refine hK _ _ ?_; try clear hK K) | refine qqG ?_ | refine qqH ?_ | refine qqI ?_ | refine qqJ ?_ | refine qqK ?_ | (refine qqL ?_; try clear hK K) | (refine qqM ?_; try clear hK K) | refine qqN ?_ | refine qqO ?_ | (refine qqP ?_ ?_; focus decide)) | ((with_reducible first | apply qqQ | apply qqR | apply qqS); focus (simp only [go_sem, cells_enc, Ty.tc, h0, h1, hz, h2]; exact rfl)) | (with_reducible first | refine gk_tt ?_ | refine gk_ff ?_ | refine ck_t ?_ | refine ck_f ?_) | ((with_reducible first | refine gk_tf ?_ | refine gk_ft ?_ | refine gk_u ?_ | refine gk_u' ?_); first | (intro _ e; (first | rw [qqY] at e | rw [qqZ] at e); subst e) | (intro _ _ e e'; (first | rw [qqY] at e | rw [qqZ] at e); subst e; subst e'))))
              (refine retP_ret (List.range 40) rfl ?_; (try simp only [zP, Prf.enc, encL, encPf, zT, if_true, if_false, Bool.false_eq_true, Bool.not_true, Bool.not_false]); exact vwA)
            | some x =>
              obtain ⟨i, xs⟩ := x
              rw [h3] at hmi hsol
              simp only [mImpV] at hmi hsol
              obtain ⟨d, _, hd, _, _⟩ := mImp_spec h3
              rw [Nat.sub_zero] at hd
              rw [hd] at hsol
              simp only at hsol
              have hat := encDc_get hd
              have hi0 : decide ((i : Int) < 0) = false := decide_eq_false (by omega)
              have hbl := hbs d (List.mem_of_getElem? hd)
              cases h4 : decide ((d.bs.length : Int) > 4) with
              | true =>
                obtain ⟨rfl, rfl⟩ := hN (by rw [hsol, h4, if_pos rfl])
                (repeat' (first | ((first | (with_reducible refine qqV fun C hC => ?_) | (with_reducible refine qqW fun C hC => ?_) | ((with_reducible intro C hC); (with_reducible refine qqX ?_))); (first | (simp only [go_sem, cells_enc, Ty.tc, h0, h1, hz, h2, hi0, hat, pcells_dc, encTb_len, h4]; (first | ((with_reducible apply ACall.pure0 [1, 2] (hix)); (focus (exact vwA))) | ((with_reducible apply ACall.pure0 [] (hmi)); (focus (exact vwA)))))); (simp only [go_sem, cells_enc, Ty.tc, h0, h1, hz, h2, hi0, hat, pcells_dc, encTb_len, h4]); ((with_reducible first | refine finA hC ?_ | refine finD hC ?_); clear hC C)) | ((with_reducible first | refine qqT fun C hC => ?_ | refine qqU fun C hC => ?_ | intro C hC); simp only [go_sem, cells_enc, Ty.tc, h0, h1, hz, h2, hi0, hat, pcells_dc, encTb_len, h4]; ((with_reducible first | refine finA hC ?_ | refine finD hC ?_); clear hC C)) | (with_reducible first | refine qqA fun K hK => ?_ | refine qqB fun K hK => ?_ | refine qqC fun K hK => ?_ | (refine qqD ?_; refine hK _ _ ?_; try clear hK K) | (refine qqE ?_; refine hK _ _ _ ?_ ?_; (focus kernel_rfl); try clear hK K) | (refine qqF ?_; refine hK _ _ ?_; try clear hK K) | refine qqG ?_ | refine qqH ?_ | refine qqI ?_ | refine qqJ ?_ | refine qqK ?_ | (refine qqL ?_; try clear hK K) | (refine qqM ?_; try clear hK K) | refine qqN ?_ | refine qqO ?_ | (refine qqP ?_ ?_; focus decide)) | ((with_reducible first | apply qqQ | apply qqR | apply qqS); focus (simp only [go_sem, cells_enc, Ty.tc, h0, h1, hz, h2, hi0, hat, pcells_dc, encTb_len, h4]; exact rfl)) | (with_reducible first | refine gk_tt ?_ | refine gk_ff ?_ | refine ck_t ?_ | refine ck_f ?_) | ((with_reducible first | refine gk_tf ?_ | refine gk_ft ?_ | refine gk_u ?_ | refine gk_u' ?_); first | (intro _ e; (first | rw [qqY] at e | rw [qqZ] at e); subst e) | (intro _ _ e e'; (first | rw [qqY] at e | rw [qqZ] at e); subst e; subst e'))))
                (refine retP_ret (List.range 40) rfl ?_; (try simp only [zP, Prf.enc, encL, encPf, zT, if_true, if_false, Bool.false_eq_true, Bool.not_true, Bool.not_false]); exact vwA)
              | false =>
                rw [h4, if_neg (by simp)] at hsol
                (repeat' (first | ((first | (with_reducible refine qqV fun C hC => ?_) | (with_reducible refine qqW fun C hC => ?_) | ((with_reducible intro C hC); (with_reducible refine qqX ?_))); (first | (simp only [go_sem, cells_enc, Ty.tc, h0, h1, hz, h2, hi0, hat, pcells_dc, encTb_len, h4]; (first | ((with_reducible apply ACall.pure0 [1, 2] (hix)); (focus (exact vwA))) | ((with_reducible apply ACall.pure0 [] (hmi)); (focus (exact vwA))) | ((with_reducible apply ACall.pure0 [] (hcl)); (focus (exact vwA)))))); (simp only [go_sem, cells_enc, Ty.tc, h0, h1, hz, h2, hi0, hat, pcells_dc, encTb_len, h4]); ((with_reducible first | refine finA hC ?_ | refine finD hC ?_); clear hC C)) | ((with_reducible first | refine qqT fun C hC => ?_ | refine qqU fun C hC => ?_ | intro C hC); simp only [go_sem, cells_enc, Ty.tc, h0, h1, hz, h2, hi0, hat, pcells_dc, encTb_len, h4]; ((with_reducible first | refine finA hC ?_ | refine finD hC ?_); clear hC C)) | (with_reducible first | refine qqA fun K hK => ?_ | refine qqB fun K hK => ?_ | refine qqC fun K hK => ?_ | (refine qqD ?_; refine hK _ _ ?_; try clear hK K) | (refine qqE ?_; refine hK _ _ _ ?_ ?_; (focus kernel_rfl); try clear hK K) | (refine qqF ?_; refine hK _ _ ?_; try clear hK K) | refine qqG ?_ | refine qqH ?_ | refine qqI ?_ | refine qqJ ?_ | refine qqK ?_ | (refine qqL ?_; try clear hK K) | (refine qqM ?_; try clear hK K) | refine qqN ?_ | refine qqO ?_ | (refine qqP ?_ ?_; focus decide)) | ((with_reducible first | apply qqQ | apply qqR | apply qqS); focus (simp only [go_sem, cells_enc, Ty.tc, h0, h1, hz, h2, hi0, hat, pcells_dc, encTb_len, h4]; exact rfl)) | (with_reducible first | refine gk_tt ?_ | refine gk_ff ?_ | refine ck_t ?_ | refine ck_f ?_) | ((with_reducible first | refine gk_tf ?_ | refine gk_ft ?_ | refine gk_u ?_ | refine gk_u' ?_); first | (intro _ e; (first | rw [qqY] at e | rw [qqZ] at e); subst e) | (intro _ _ e e'; (first | rw [qqY] at e | rw [qqZ] at e); subst e; subst e'))))
                have rows : ∀ (rest pre : List Tb) (qs : List Prf), pre ++ rest = d.bs → solL (sol ds az n) d.ps xs pre = some qs → loopN (awp Try.prog ac77_l0) (catch_ 0 (thn K (retP [RV.cell 8 8 true, RV.tmp 9] [r0, r1]))) (rest.length + 1)
                     [(74, .pv (ii pre.length)), (73, .pv (ii d.bs.length)), (72, .pv (.list 4 (encTb d.bs))), (13, .ptr 2 0 0), (12, .pv (.list 3 (encL xs))), (11, .pv (ii i)), (8, .ptr 1 0 0), (4, .ptr 0 0 0), (3, .pv (ii (n + 1 : Nat)))]
                     [some ⟨false, 107, 2, [[.pv (.list 7 (encDc ds)), .pv (.list 4 (encTb az))]], none⟩, some ⟨false, 30, 8, [[.pv (ii 0), .pv (ii 0), .pv (.lit (.slice none 0 0)), .pv (ii 0), .pv (ii 0), .pv (ii 0), .pv (.lit (.slice none 0 0)), .pv (.lit (.slice none 0 0))]], none⟩,
                     some ⟨false, 30, 8, [[.pv (ii t.kd), .pv (ii t.id), .pv (.list 3 (encL t.args)), .pv (ii tr), .pv (ii i), .pv (ii (-1)), .pv (.list 3 (encL xs)), .row 3 qs.length false]], none⟩, some ⟨false, 30, 8, qs.map Prf.tc, none⟩] := by
                  intro rest
                  induction rest with
                  | nil =>
                    intro pre qs hpre hq
                    have hpre : pre = d.bs := by simpa using hpre
                    subst hpre
                    rw [hq] at hsol
                    obtain ⟨rfl, rfl⟩ := hS _ hsol
                    have hql := solL_len hq
                    refine loopN_k fun K1 hK1 => ?_
                    unfold ac77_l0
                    (repeat' (first | ((with_reducible first | refine qqT fun C hC => ?_ | refine qqU fun C hC => ?_ | intro C hC); simp only [go_sem, lt_end]; ((with_reducible first | refine finA hC ?_ | refine finD hC ?_); clear hC C)) | (with_reducible first | refine qqA fun K hK => ?_ | refine qqB fun K hK => ?_ | refine qqC fun K hK => ?_ | (refine qqD ?_; refine hK _ _ ?_; try clear hK K) | (refine qqE ?_; refine hK _ _ _ ?_ ?_; (focus kernel_rfl); try clear hK K) | (refine qqF ?_; refine hK _ _ ?_; try clear hK K) | refine qqG ?_ | refine qqH ?_ | refine qqI ?_ | refine qqJ ?_ | refine qqK ?_ | (refine qqL ?_; try clear hK K) | (refine qqM ?_; try clear hK K) | refine qqN ?_ | refine qqO ?_ | (refine qqP ?_ ?_; focus decide)) | ((with_reducible first | apply qqQ | apply qqR | apply qqS); focus (simp only [go_sem, lt_end]; exact rfl)) | (with_reducible first | refine gk_tt ?_ | refine gk_ff ?_ | refine ck_t ?_ | refine ck_f ?_) | ((with_reducible first | refine gk_tf ?_ | refine gk_ft ?_ | refine gk_u ?_ | refine gk_u' ?_); first | (intro _ e; (first | rw [qqY] at e | rw [qqZ] at e); subst e) | (intro _ _ e e'; (first | rw [qqY] at e | rw [qqZ] at e); subst e; subst e'))))
                    refine retP_ret (List.range 40) rfl ?_
                    simp only [Prf.enc]
                    refine .cons _ _ _ _ (.agg _ _ ?_) (.cons _ _ _ _ (.pv _) .nil)
                    exact .cons _ _ _ _ (.pv _) (.cons _ _ _ _ (.pv _) (.cons _ _ _ _ (.pv _) (.cons _ _ _ _ (.pv _) (.cons _ _ _ _ (.pv _) (.cons _ _ _ _ (.pv _) (.cons _ _ _ _ (.pv _) (.cons _ _ _ _ (row_prf (by decide) rfl rfl) .nil)))))))
                  | cons b rest ih =>
                    intro pre qs hpre hq
                    have hlt : decide ((pre.length : Int) < (d.bs.length : Int)) = true := by rw [← hpre]; exact lt_app _ _ _
                    have hbt : (encTb d.bs)[pre.length]? = some b.enc := by rw [← hpre]; exact encTb_at _ _ _
                    have hb : pre.length + 1 ≤ big := by have := congrArg List.length hpre; simp at this; unfold big; omega
                    have hw := wrapS (n := pre.length) (by unfold big at hb; omega)
                    have hql := solL_len hq
                    have hqb : qs.length + 1 ≤ big := by omega
                    have hap := apply_ok b.t d.ps xs
                    have hc := ihn (appT d.ps xs b.t) b.tr
                    have hsa := solL_app (b := b) (rest := rest) hq
                    rw [hpre] at hsa
                    refine loopN_k fun K1 hK1 => ?_
                    unfold ac77_l0
                    cases hr : sol ds az n (appT d.ps xs b.t) b.tr with
                    | none =>
                      rw [hr] at hc hsa
                      simp only at hsa
                      rw [hsa] at hsol
                      obtain ⟨rfl, rfl⟩ := hN hsol
                      simp only [solV] at hc
                      (repeat' (first | ((first | (with_reducible refine qqV fun C hC => ?_) | (with_reducible refine qqW fun C hC => ?_) | ((with_reducible intro C hC); (with_reducible refine qqX ?_))); (first | (simp only [go_sem, hlt, hbt, pcells_tb, hat, pcells_dc, cells_enc, Ty.tc, hw1, cells_prf, Prf.tc, scal_prf]; (first | ((with_reducible apply ACall.pure0 [] (hap)); (focus (exact vwA))) | ((with_reducible apply ACall.pure0 [] (hc)); (focus (exact vwA)))))); (simp only [go_sem, hlt, hbt, pcells_tb, hat, pcells_dc, cells_enc, Ty.tc, hw1, cells_prf, Prf.tc, scal_prf]); ((with_reducible first | refine finA hC ?_ | refine finD hC ?_); clear hC C)) | ((with_reducible first | refine qqT fun C hC => ?_ | refine qqU fun C hC => ?_ | intro C hC); simp only [go_sem, hlt, hbt, pcells_tb, hat, pcells_dc, cells_enc, Ty.tc, hw1, cells_prf, Prf.tc, scal_prf]; ((with_reducible first | refine finA hC ?_ | refine finD hC ?_); clear hC C)) | (with_reducible first | refine qqA fun K hK => ?_ | refine qqB fun K hK => ?_ | refine qqC fun K hK => ?_ | (refine qqD ?_; refine hK _ _ ?_; try clear hK K) | (refine qqE ?_; refine hK _ _ _ ?_ ?_; (focus kernel_rfl); try clear hK K) | (refine qqF ?_; refine hK _ _ ?_; try clear hK K) | refine qqG ?_ | refine qqH ?_ | refine qqI ?_ | refine qqJ ?_ | refine qqK ?_ | (refine qqL ?_; try clear hK K) | (refine qqM ?_; try clear hK K) | refine qqN ?_ | refine qqO ?_ | (refine qqP ?_ ?_; focus decide)) | ((with_reducible first | apply qqQ | apply qqR | apply qqS); focus (simp only [go_sem, hlt, hbt, pcells_tb, hat, pcells_dc, cells_enc, Ty.tc, hw1, cells_prf, Prf.tc, scal_prf]; exact rfl)) | (with_reducible first | refine gk_tt ?_ | refine gk_ff ?_ | refine ck_t ?_ | refine ck_f ?_) | ((with_reducible first | refine gk_tf ?_ | refine gk_ft ?_ | refine gk_u ?_ | refine gk_u' ?_); first | (intro _ e; (first | rw [qqY] at e | rw [qqZ] at e); subst e) | (intro _ _ e e'; (first | rw [qqY] at e | rw [qqZ] at e); subst e; subst e'))))
                      (refine retP_ret (List.range 40) rfl ?_; (try simp only [zP, Prf.enc, encL, encPf, zT, if_true, if_false, Bool.false_eq_true, Bool.not_true, Bool.not_false]); exact vwA)
                    | some q =>
                      rw [hr] at hc
                      simp only [solV] at hc
                      have hq2 : solL (sol ds az n) d.ps xs (pre ++ [b]) = some (qs ++ [q]) := by
                        rw [solL_app (b := b) (rest := []) hq, hr]; simp [solL]
                      (repeat' (first | ((first | (with_reducible refine qqV fun C hC => ?_) | (with_reducible refine qqW fun C hC => ?_) | ((with_reducible intro C hC); (with_reducible refine qqX ?_))); (first | (simp only [go_sem, hlt, hbt, pcells_tb, hat, pcells_dc, cells_enc, Ty.tc, hw1, cells_prf, Prf.tc, scal_prf, List.length_map, hqb]; (first | ((with_reducible apply ACall.pure0 [] (hap)); (focus (exact vwA))) | ((with_reducible apply ACall.pure0 [] (hc)); (focus (exact vwA)))))); (simp only [go_sem, hlt, hbt, pcells_tb, hat, pcells_dc, cells_enc, Ty.tc, hw1, cells_prf, Prf.tc, scal_prf, List.length_map, hqb]); ((with_reducible first | refine finA hC ?_ | refine finD hC ?_); clear hC C)) | ((with_reducible first | refine qqT fun C hC => ?_ | refine qqU fun C hC => ?_ | intro C hC); simp only [go_sem, hlt, hbt, pcells_tb, hat, pcells_dc, cells_enc, Ty.tc, hw1, cells_prf, Prf.tc, scal_prf, List.length_map, hqb]; ((with_reducible first | refine finA hC ?_ | refine finD hC ?_); clear hC C)) | (with_reducible first | refine qqA fun K hK => ?_ | refine qqB fun K hK => ?_ | refine qqC fun K hK => ?_ | (refine qqD ?_; refine hK _ _ ?_; try clear hK K) | (refine qqE ?_; refine hK _ _ _ ?_ ?_; (focus kernel_rfl); try clear hK K) | (refine qqF ?_; refine hK _ _ ?_; try clear hK K) | refine qqG ?_ | refine qqH ?_ | refine qqI ?_ | refine qqJ ?_ | refine qqK ?_ | (refine qqL ?_; try clear hK K) | (refine qqM ?_; try clear hK K) | refine qqN ?_ | refine qqO ?_ | (refine qqP ?_ ?_; focus decide)) | ((with_reducible first | apply qqQ | apply qqR | apply qqS); focus (simp only [go_sem, hlt, hbt, pcells_tb, hat, pcells_dc, cells_enc, Ty.tc, hw1, cells_prf, Prf.tc, scal_prf, List.length_map, hqb]; exact rfl)) | (with_reducible first | refine gk_tt ?_ | refine gk_ff ?_ | refine ck_t ?_ | refine ck_f ?_) | ((with_reducible first | refine gk_tf ?_ | refine gk_ft ?_ | refine gk_u ?_ | refine gk_u' ?_); first | (intro _ e; (first | rw [qqY] at e | rw [qqZ] at e); subst e) | (intro _ _ e e'; (first | rw [qqY] at e | rw [qqZ] at e); subst e; subst e'))))
                      refine qqF ?_
                      refine hK1 _ _ _ _ _ (LeB [0, 1, 2, 26] (by refine ⟨?_, ?_, ?_⟩ <;> simp only [leFr, leFb, leHp, V.ren, V.renL, V.bd, V.bdL, allL, lt, Go.Ab.get, hget, List.map_cons, List.map_nil, List.length_cons, List.length_nil, List.length_append, List.getElem?_cons_zero, List.getElem?_cons_succ, List.getElem?_nil, Option.join_some, Option.join_none, List.getD_cons_zero, List.getD_cons_succ, List.getD_nil, Nat.reduceAdd, Nat.reduceLT, Nat.reduceEqDiff, Nat.zero_add, reduceIte, if_true, if_false, and_true, true_and, renL_vcells, allL_vcells, renL_pv, leBlk_some, eq_self, true_or, or_true, reduceCtorEq, false_or, hw, List.length_append, renL_ptc, allL_ptc, List.map_append, Prf.tc, allL_app])) (ih (pre ++ [b]) (qs ++ [q]) (by simp [hpre]) hq2)
                have first : loopN (awp Try.prog ac77_l0) (catch_ 0 (thn K (retP [RV.cell 8 8 true, RV.tmp 9] [r0, r1]))) (d.bs.length + 1)
                     [(74, .pv (ii 0)), (73, .pv (ii d.bs.length)), (72, .pv (.list 4 (encTb d.bs))), (13, .ptr 2 0 0), (12, .pv (.list 3 (encL xs))), (11, .pv (ii i)), (8, .ptr 1 0 0), (4, .ptr 0 0 0), (3, .pv (ii (n + 1 : Nat)))]
                     [some ⟨false, 107, 2, [[.pv (.list 7 (encDc ds)), .pv (.list 4 (encTb az))]], none⟩, some ⟨false, 30, 8, [[.pv (ii 0), .pv (ii 0), .pv (.lit (.slice none 0 0)), .pv (ii 0), .pv (ii 0), .pv (ii 0), .pv (.lit (.slice none 0 0)), .pv (.lit (.slice none 0 0))]], none⟩,
                     some ⟨false, 30, 8, [[.pv (ii t.kd), .pv (ii t.id), .pv (.list 3 (encL t.args)), .pv (ii tr), .pv (ii i), .pv (ii (-1)), .pv (.list 3 (encL xs)), .pv (.lit (.slice none 0 0))]], none⟩] := by
                  cases hbb : d.bs with
                  | nil =>
                    refine loopN_k fun K1 hK1 => ?_
                    unfold ac77_l0
                    rw [hbb] at hsol
                    simp only [solL] at hsol
                    obtain ⟨rfl, rfl⟩ := hS _ hsol
                    (repeat' (first | ((with_reducible first | refine qqT fun C hC => ?_ | refine qqU fun C hC => ?_ | intro C hC); simp only [go_sem, hbb, List.length_nil, Int.ofNat_zero]; ((with_reducible first | refine finA hC ?_ | refine finD hC ?_); clear hC C)) | (with_reducible first | refine qqA fun K hK => ?_ | refine qqB fun K hK => ?_ | refine qqC fun K hK => ?_ | (refine qqD ?_; refine hK _ _ ?_; try clear hK K) | (refine qqE ?_; refine hK _ _ _ ?_ ?_; (focus kernel_rfl); try clear hK K) | (refine qqF ?_; refine hK _ _ ?_; try clear hK K) | refine qqG ?_ | refine qqH ?_ | refine qqI ?_ | refine qqJ ?_ | refine qqK ?_ | (refine qqL ?_; try clear hK K) | (refine qqM ?_; try clear hK K) | refine qqN ?_ | refine qqO ?_ | (refine qqP ?_ ?_; focus decide)) | ((with_reducible first | apply qqQ | apply qqR | apply qqS); focus (simp only [go_sem, hbb, List.length_nil, Int.ofNat_zero]; exact rfl)) | (with_reducible first | refine gk_tt ?_ | refine gk_ff ?_ | refine ck_t ?_ | refine ck_f ?_) | ((with_reducible first | refine gk_tf ?_ | refine gk_ft ?_ | refine gk_u ?_ | refine gk_u' ?_); first | (intro _ e; (first | rw [qqY] at e | rw [qqZ] at e); subst e) | (intro _ _ e e'; (first | rw [qqY] at e | rw [qqZ] at e); subst e; subst e'))))
                    (refine retP_ret (List.range 40) rfl ?_; (try simp only [Prf.enc, encL, encPf, if_true, if_false, Bool.false_eq_true, Bool.not_true, Bool.not_false]); exact vwA)
                  | cons b rest =>
                    refine loopN_k fun K1 hK1 => ?_
                    unfold ac77_l0
                    have hlt : decide ((0 : Int) < (((b :: rest).length : Nat) : Int)) = true := by simp
                    have hbt : (encTb (b :: rest))[0]? = some b.enc := rfl
                    have hap := apply_ok b.t d.ps xs
                    have hc := ihn (appT d.ps xs b.t) b.tr
                    have hsa := solL_app (f := sol ds az n) (ps := d.ps) (xs := xs) (b := b) (pre := []) (rest := rest) (qs := []) rfl
                    rw [List.nil_append] at hsa
                    rw [hbb, hsa] at hsol
                    rw [hbb] at rows
                    cases hr : sol ds az n (appT d.ps xs b.t) b.tr with
                    | none =>
                      rw [hr] at hc hsol
                      simp only at hsol
                      obtain ⟨rfl, rfl⟩ := hN hsol
                      simp only [solV] at hc
                      (repeat' (first | ((first | (with_reducible refine qqV fun C hC => ?_) | (with_reducible refine qqW fun C hC => ?_) | ((with_reducible intro C hC); (with_reducible refine qqX ?_))); (first | (simp only [go_sem, hbb, hlt, hbt, pcells_tb, hat, pcells_dc, cells_enc, Ty.tc, hw1, cells_prf, Prf.tc, scal_prf]; (first | ((with_reducible apply ACall.pure0 [] (hap)); (focus (exact vwA))) | ((with_reducible apply ACall.pure0 [] (hc)); (focus (exact vwA)))))); (simp only [go_sem, hbb, hlt, hbt, pcells_tb, hat, pcells_dc, cells_enc, Ty.tc, hw1, cells_prf, Prf.tc, scal_prf]); ((with_reducible first | refine finA hC ?_ | refine finD hC ?_); clear hC C)) | ((with_reducible first | refine qqT fun C hC => ?_ | refine qqU fun C hC => ?_ | intro C hC); simp only [go_sem, hbb, hlt, hbt, pcells_tb, hat, pcells_dc, cells_enc, Ty.tc, hw1, cells_prf, Prf.tc, scal_prf]; ((with_reducible first | refine finA hC ?_ | refine finD hC ?_); clear hC C)) | (with_reducible first | refine qqA fun K hK => ?_ | refine qqB fun K hK => ?_ | refine qqC fun K hK => ?_ | (refine qqD ?_; refine hK _ _ ?_; try clear hK K) | (refine qqE ?_; refine hK _ _ _ ?_ ?_; (focus kernel_rfl); try clear hK K) | (refine qqF ?_; refine hK _ _ ?_; try clear hK K) | refine qqG ?_ | refine qqH ?_ | refine qqI ?_ | refine qqJ ?_ | refine qqK ?_ | (refine qqL ?_; try clear hK K) | (refine qqM ?_; try clear hK K) | refine qqN ?_ | refine qqO ?_ | (refine qqP ?_ ?_; focus decide)) | ((with_reducible first | apply qqQ | apply qqR | apply qqS); focus (simp only [go_sem, hbb, hlt, hbt, pcells_tb, hat, pcells_dc, cells_enc, Ty.tc, hw1, cells_prf, Prf.tc, scal_prf]; exact rfl)) | (with_reducible first | refine gk_tt ?_ | refine gk_ff ?_ | refine ck_t ?_ | refine ck_f ?_) | ((with_reducible first | refine gk_tf ?_ | refine gk_ft ?_ | refine gk_u ?_ | refine gk_u' ?_); first | (intro _ e; (first | rw [qqY] at e | rw [qqZ] at e); subst e) | (intro _ _ e e'; (first | rw [qqY] at e | rw [qqZ] at e); subst e; subst e'))))
                      (refine retP_ret (List.range 40) rfl ?_; (try simp only [zP, Prf.enc, encL, encPf, zT, if_true, if_false, Bool.false_eq_true, Bool.not_true, Bool.not_false]); exact vwA)
                    | some q =>
                      rw [hr] at hc
                      simp only [solV] at hc
                      have hq2 : solL (sol ds az n) d.ps xs [b] = some [q] := by
                        simp [solL, hr]
                      (repeat' (first | ((first | (with_reducible refine qqV fun C hC => ?_) | (with_reducible refine qqW fun C hC => ?_) | ((with_reducible intro C hC); (with_reducible refine qqX ?_))); (first | (simp only [go_sem, hbb, hlt, hbt, pcells_tb, hat, pcells_dc, cells_enc, Ty.tc, hw1, cells_prf, Prf.tc, scal_prf]; (first | ((with_reducible apply ACall.pure0 [] (hap)); (focus (exact vwA))) | ((with_reducible apply ACall.pure0 [] (hc)); (focus (exact vwA)))))); (simp only [go_sem, hbb, hlt, hbt, pcells_tb, hat, pcells_dc, cells_enc, Ty.tc, hw1, cells_prf, Prf.tc, scal_prf]); ((with_reducible first | refine finA hC ?_ | refine finD hC ?_); clear hC C)) | ((with_reducible first | refine qqT fun C hC => ?_ | refine qqU fun C hC => ?_ | intro C hC); simp only [go_sem, hbb, hlt, hbt, pcells_tb, hat, pcells_dc, cells_enc, Ty.tc, hw1, cells_prf, Prf.tc, scal_prf]; ((with_reducible first | refine finA hC ?_ | refine finD hC ?_); clear hC C)) | (with_reducible first | refine qqA fun K hK => ?_ | refine qqB fun K hK => ?_ | refine qqC fun K hK => ?_ | (refine qqD ?_; refine hK _ _ ?_; try clear hK K) | (refine qqE ?_; refine hK _ _ _ ?_ ?_; (focus kernel_rfl); try clear hK K) | (refine qqF ?_; refine hK _ _ ?_; try clear hK K) | refine qqG ?_ | refine qqH ?_ | refine qqI ?_ | refine qqJ ?_ | refine qqK ?_ | (refine qqL ?_; try clear hK K) | (refine qqM ?_; try clear hK K) | refine qqN ?_ | refine qqO ?_ | (refine qqP ?_ ?_; focus decide)) | ((with_reducible first | apply qqQ | apply qqR | apply qqS); focus (simp only [go_sem, hbb, hlt, hbt, pcells_tb, hat, pcells_dc, cells_enc, Ty.tc, hw1, cells_prf, Prf.tc, scal_prf]; exact rfl)) | (with_reducible first | refine gk_tt ?_ | refine gk_ff ?_ | refine ck_t ?_ | refine ck_f ?_) | ((with_reducible first | refine gk_tf ?_ | refine gk_ft ?_ | refine gk_u ?_ | refine gk_u' ?_); first | (intro _ e; (first | rw [qqY] at e | rw [qqZ] at e); subst e) | (intro _ _ e e'; (first | rw [qqY] at e | rw [qqZ] at e); subst e; subst e'))))
                      refine qqF ?_
                      refine hK1 _ _ _ _ _ (LeB [0, 1, 2, 25] (by refine ⟨?_, ?_, ?_⟩ <;> simp only [leFr, leFb, leHp, V.ren, V.renL, V.bd, V.bdL, allL, lt, Go.Ab.get, hget, List.map_cons, List.map_nil, List.length_cons, List.length_nil, List.length_append, List.getElem?_cons_zero, List.getElem?_cons_succ, List.getElem?_nil, Option.join_some, Option.join_none, List.getD_cons_zero, List.getD_cons_succ, List.getD_nil, Nat.reduceAdd, Nat.reduceLT, Nat.reduceEqDiff, Nat.zero_add, reduceIte, if_true, if_false, and_true, true_and, renL_vcells, allL_vcells, renL_pv, leBlk_some, eq_self, true_or, or_true, reduceCtorEq, false_or, wrap01, renL_ptc, allL_ptc, List.map_cons, List.map_nil, Prf.tc, allL_app, allL])) (rows rest [b] [q] rfl hq2)
                refine awp_loop_k _ (LeB [0, 3, 10] (by refine ⟨?_, ?_, ?_⟩ <;> simp only [leFr, leFb, leHp, V.ren, V.renL, V.bd, V.bdL, allL, lt, Go.Ab.get, hget, List.map_cons, List.map_nil, List.length_cons, List.length_nil, List.length_append, List.getElem?_cons_zero, List.getElem?_cons_succ, List.getElem?_nil, Option.join_some, Option.join_none, List.getD_cons_zero, List.getD_cons_succ, List.getD_nil, Nat.reduceAdd, Nat.reduceLT, Nat.reduceEqDiff, Nat.zero_add, reduceIte, if_true, if_false, and_true, true_and, renL_vcells, allL_vcells, renL_pv, leBlk_some, eq_self, true_or, or_true, reduceCtorEq, false_or, c0])) first
    cases h : sol ds az (n + 1) t tr with
    | none => rw [h] at hgen; exact hgen _ _ rfl
    | some p => rw [h] at hgen; exact hgen _ _ rfl
set_option maxHeartbeats 1000000 in
theorem solve1_ok (ds : List Dc) (az : List Tb) (t : Ty) (tr : Int) : PCall Try.prog 22 [.list 7 (encDc ds), .list 4 (encTb az), t.enc, ii tr] (solV (sol ds az 8 t tr)) := by
  have hc := solve_ok ds az 8 (by omega) t tr
  cases h : sol ds az 8 t tr with
  | none =>
    rw [h] at hc
    refine PCall.intro (ps := [zP.enc, bb false]) fn22 (by simp) ?_
    simp only [solV] at hc
    unfold ac22
    simp only [argFr]
    (repeat' (first | ((first | (with_reducible refine qqV fun C hC => ?_) | (with_reducible refine qqW fun C hC => ?_) | ((with_reducible intro C hC); (with_reducible refine qqX ?_))); (first | (simp only [go_sem, cells_enc, Ty.tc, cells_prf, Prf.tc, scal_prf]; (first | ((with_reducible apply ACall.pure0 [] (hc)); (focus (exact vwA)))))); (simp only [go_sem, cells_enc, Ty.tc, cells_prf, Prf.tc, scal_prf]); ((with_reducible first | refine finA hC ?_ | refine finD hC ?_); clear hC C)) | ((with_reducible first | refine qqT fun C hC => ?_ | refine qqU fun C hC => ?_ | intro C hC); simp only [go_sem, cells_enc, Ty.tc, cells_prf, Prf.tc, scal_prf]; ((with_reducible first | refine finA hC ?_ | refine finD hC ?_); clear hC C)) | (with_reducible first | refine qqA fun K hK => ?_ | refine qqB fun K hK => ?_ | refine qqC fun K hK => ?_ | (refine qqD ?_; refine hK _ _ ?_; try clear hK K) | (refine qqE ?_; refine hK _ _ _ ?_ ?_; (focus kernel_rfl); try clear hK K) | (refine qqF ?_; refine hK _ _ ?_; try clear hK K) | refine qqG ?_ | refine qqH ?_ | refine qqI ?_ | refine qqJ ?_ | refine qqK ?_ | (refine qqL ?_; try clear hK K) | (refine qqM ?_; try clear hK K) | refine qqN ?_ | refine qqO ?_ | (refine qqP ?_ ?_; focus decide)) | ((with_reducible first | apply qqQ | apply qqR | apply qqS); focus (simp only [go_sem, cells_enc, Ty.tc, cells_prf, Prf.tc, scal_prf]; exact rfl)) | (with_reducible first | refine gk_tt ?_ | refine gk_ff ?_ | refine ck_t ?_ | refine ck_f ?_) | ((with_reducible first | refine gk_tf ?_ | refine gk_ft ?_ | refine gk_u ?_ | refine gk_u' ?_); first | (intro _ e; (first | rw [qqY] at e | rw [qqZ] at e); subst e) | (intro _ _ e e'; (first | rw [qqY] at e | rw [qqZ] at e); subst e; subst e'))))
    (refine retP_ret (List.range 40) rfl ?_; (try simp only [zP, Prf.enc, encL, encPf, zT, if_true, if_false, Bool.false_eq_true, Bool.not_true, Bool.not_false]); exact vwA)
  | some p =>
    rw [h] at hc
    refine PCall.intro (ps := [p.enc, bb true]) fn22 (by simp) ?_
    simp only [solV] at hc
    unfold ac22
    simp only [argFr]
    (repeat' (first | ((first | (with_reducible refine qqV fun C hC => ?_) | (with_reducible refine qqW fun C hC => ?_) | ((with_reducible intro C hC); (with_reducible refine qqX ?_))); (first | (simp only [go_sem, cells_enc, Ty.tc, cells_prf, Prf.tc, scal_prf]; (first | ((with_reducible apply ACall.pure0 [] (hc)); (focus (exact vwA)))))); (simp only [go_sem, cells_enc, Ty.tc, cells_prf, Prf.tc, scal_prf]); ((with_reducible first | refine finA hC ?_ | refine finD hC ?_); clear hC C)) | ((with_reducible first | refine qqT fun C hC => ?_ | refine qqU fun C hC => ?_ | intro C hC); simp only [go_sem, cells_enc, Ty.tc, cells_prf, Prf.tc, scal_prf]; ((with_reducible first | refine finA hC ?_ | refine finD hC ?_); clear hC C)) | (with_reducible first | refine qqA fun K hK => ?_ | refine qqB fun K hK => ?_ | refine qqC fun K hK => ?_ | (refine qqD ?_; refine hK _ _ ?_; try clear hK K) | (refine qqE ?_; refine hK _ _ _ ?_ ?_; (focus kernel_rfl); try clear hK K) | (refine qqF ?_; refine hK _ _ ?_; try clear hK K) | refine qqG ?_ | refine qqH ?_ | refine qqI ?_ | refine qqJ ?_ | refine qqK ?_ | (refine qqL ?_; try clear hK K) | (refine qqM ?_; try clear hK K) | refine qqN ?_ | refine qqO ?_ | (refine qqP ?_ ?_; focus decide)) | ((with_reducible first | apply qqQ | apply qqR | apply qqS); focus (simp only [go_sem, cells_enc, Ty.tc, cells_prf, Prf.tc, scal_prf]; exact rfl)) | (with_reducible first | refine gk_tt ?_ | refine gk_ff ?_ | refine ck_t ?_ | refine ck_f ?_) | ((with_reducible first | refine gk_tf ?_ | refine gk_ft ?_ | refine gk_u ?_ | refine gk_u' ?_); first | (intro _ e; (first | rw [qqY] at e | rw [qqZ] at e); subst e) | (intro _ _ e e'; (first | rw [qqY] at e | rw [qqZ] at e); subst e; subst e'))))
    rw [encp_eq]
    (refine retP_ret (List.range 40) rfl ?_; exact vwA)
end Go.Proofs.Ytbdoblgofddhdaa
