/- B2: joined from V9 V10. -/
import Derived.Test.YtbdoblgofddhdaaFnU
import Derived.Test.YtbdoblgofddhdaaB1
import Derived.Test.YtbdoblgofddhdaaA5
import Derived.Test.YtbdoblgofddhdaaA6
/- Traits: the reference's functions on parameters. -/
set_option maxRecDepth 10000
set_option linter.unusedSimpArgs false
set_option linter.unusedVariables false
namespace Go.Proofs.Ytbdoblgofddhdaa
open Go Go.Ab
def pI (ps : List Int) (k id : Int) : Int := if k == 2 then idxF (fun x => x == id) ps 0 else -1
theorem pI_cases (ps : List Int) (k id : Int) : (isPar ps k id = true ∧ pI ps k id = ((parI ps id : Nat) : Int)) ∨ (isPar ps k id = false ∧ pI ps k id = -1) := by
  have hf : (fun x : Int => x == id) = fun x => id == x := by funext x; exact Bool.beq_comm
  unfold pI
  rw [hf]
  rcases par_cases ps k id with ⟨h1, h2, i, h3, h4, h5⟩ | ⟨h1, h2 | ⟨h2, h3⟩⟩
  · exact .inl ⟨h1, by rw [if_pos h2, h4, h5]⟩
  · exact .inr ⟨h1, by rw [if_neg (by simp [h2])]⟩
  · exact .inr ⟨h1, by rw [if_pos h2, h3]⟩
theorem eq_enc (t : Ty) : t.enc = .agg [ii t.kd, ii t.id, .list 3 (encL t.args)] := by cases t; rfl
set_option maxHeartbeats 2000000 in
theorem pidx_ok (t : Ty) (ps : List Int) : PCall Try.prog 149 [t.enc, .list 1 (encI ps)] (ii (pI ps t.kd t.id)) := by
  refine PCall.intro' (ps := [ii (pI ps t.kd t.id)]) fn149 (by simp) fun hok => ?_
  have hss : ps.length ≤ 1099511627776 := by
    simp only [PV.okL, PV.ok, encI_len, big] at hok; exact hok.2.1.1
  clear hok
  unfold ac149
  simp only [argFr]
  cases hk : (t.kd == 2) with
  | false =>
    (repeat' (first | ((with_reducible first | refine qqT fun C hC => ?_ | refine qqU fun C hC => ?_ | intro C hC); simp only [go_sem, cells_enc, Ty.tc, hk]; ((with_reducible first | refine finA hC ?_ | refine finD hC ?_); clear hC C)) | (with_reducible first | refine qqA fun K hK => ?_ | refine qqB fun K hK => ?_ | refine qqC fun K hK => ?_ | (refine qqD ?_; refine hK _ _ ?_; try clear hK K) | (refine qqE ?_; refine hK _ _ _ ?_ ?_; (focus kernel_rfl); try clear hK K) | (refine qqF ?_; refine hK _ _ ?_; try clear hK K) | refine qqG ?_ | refine qqH ?_ | refine qqI ?_ | refine qqJ ?_ | refine qqK ?_ | (refine qqL ?_; try clear hK K) | (refine qqM ?_; try clear hK K) | refine qqN ?_ | refine qqO ?_ | (refine qqP ?_ ?_; focus decide)) | ((with_reducible first | apply qqQ | apply qqR | apply qqS); focus (simp only [go_sem, cells_enc, Ty.tc, hk]; exact rfl)) | (with_reducible first | refine gk_tt ?_ | refine gk_ff ?_ | refine ck_t ?_ | refine ck_f ?_) | ((with_reducible first | refine gk_tf ?_ | refine gk_ft ?_ | refine gk_u ?_ | refine gk_u' ?_); first | (intro _ e; (first | rw [qqY] at e | rw [qqZ] at e); subst e) | (intro _ _ e e'; (first | rw [qqY] at e | rw [qqZ] at e); subst e; subst e'))))
    (refine retP_ret (List.range 40) rfl ?_; (try simp only [pI, hk, if_true, if_false, Bool.false_eq_true, Bool.not_true, Bool.not_false]); exact vwA)
  | true =>
    have he : pI ps t.kd t.id = idxF (fun x => x == t.id) ps 0 := by unfold pI; rw [if_pos hk]
    rw [he]
    (repeat' (first | ((with_reducible first | refine qqT fun C hC => ?_ | refine qqU fun C hC => ?_ | intro C hC); simp only [go_sem, cells_enc, Ty.tc, hk, encI_len]; ((with_reducible first | refine finA hC ?_ | refine finD hC ?_); clear hC C)) | (with_reducible first | refine qqA fun K hK => ?_ | refine qqB fun K hK => ?_ | refine qqC fun K hK => ?_ | (refine qqD ?_; refine hK _ _ ?_; try clear hK K) | (refine qqE ?_; refine hK _ _ _ ?_ ?_; (focus kernel_rfl); try clear hK K) | (refine qqF ?_; refine hK _ _ ?_; try clear hK K) | refine qqG ?_ | refine qqH ?_ | refine qqI ?_ | refine qqJ ?_ | refine qqK ?_ | (refine qqL ?_; try clear hK K) | (refine qqM ?_; try clear hK K) | refine qqN ?_ | refine qqO ?_ | (refine qqP ?_ ?_; focus decide)) | ((with_reducible first | apply qqQ | apply qqR | apply qqS); focus (simp only [go_sem, cells_enc, Ty.tc, hk, encI_len]; exact rfl)) | (with_reducible first | refine gk_tt ?_ | refine gk_ff ?_ | refine ck_t ?_ | refine ck_f ?_) | ((with_reducible first | refine gk_tf ?_ | refine gk_ft ?_ | refine gk_u ?_ | refine gk_u' ?_); first | (intro _ e; (first | rw [qqY] at e | rw [qqZ] at e); subst e) | (intro _ _ e e'; (first | rw [qqY] at e | rw [qqZ] at e); subst e; subst e'))))
    have rows : ∀ (rest pre : List Int), pre ++ rest = ps → idxF (fun x => x == t.id) ps 0 = idxF (fun x => x == t.id) rest pre.length → loopN (awp Try.prog ac149_l0) (catch_ 0 (thn K (retP [RV.tmp 4] [ii (idxF (fun x => x == t.id) ps 0)]))) (rest.length + 1)
       [(12, .pv (ii pre.length)), (11, .pv (ii ps.length)), (10, .pv (.list 1 (encI ps))), (2, .ptr 0 0 0)] [some ⟨false, 26, 3, [[.pv (ii t.kd), .pv (ii t.id), .pv (.list 3 (encL t.args))]], none⟩] := by
      intro rest
      induction rest with
      | nil =>
        intro pre hpre hi
        have hpre : pre = ps := by simpa using hpre
        subst hpre
        refine loopN_k fun K1 hK1 => ?_
        unfold ac149_l0
        (repeat' (first | ((with_reducible first | refine qqT fun C hC => ?_ | refine qqU fun C hC => ?_ | intro C hC); simp only [go_sem, lt_end]; ((with_reducible first | refine finA hC ?_ | refine finD hC ?_); clear hC C)) | (with_reducible first | refine qqA fun K hK => ?_ | refine qqB fun K hK => ?_ | refine qqC fun K hK => ?_ | (refine qqD ?_; refine hK _ _ ?_; try clear hK K) | (refine qqE ?_; refine hK _ _ _ ?_ ?_; (focus kernel_rfl); try clear hK K) | (refine qqF ?_; refine hK _ _ ?_; try clear hK K) | refine qqG ?_ | refine qqH ?_ | refine qqI ?_ | refine qqJ ?_ | refine qqK ?_ | (refine qqL ?_; try clear hK K) | (refine qqM ?_; try clear hK K) | refine qqN ?_ | refine qqO ?_ | (refine qqP ?_ ?_; focus decide)) | ((with_reducible first | apply qqQ | apply qqR | apply qqS); focus (simp only [go_sem, lt_end]; exact rfl)) | (with_reducible first | refine gk_tt ?_ | refine gk_ff ?_ | refine ck_t ?_ | refine ck_f ?_) | ((with_reducible first | refine gk_tf ?_ | refine gk_ft ?_ | refine gk_u ?_ | refine gk_u' ?_); first | (intro _ e; (first | rw [qqY] at e | rw [qqZ] at e); subst e) | (intro _ _ e e'; (first | rw [qqY] at e | rw [qqZ] at e); subst e; subst e'))))
        rw [hi]
        (refine retP_ret (List.range 40) rfl ?_; (try simp only [idxF, if_true, if_false, Bool.false_eq_true, Bool.not_true, Bool.not_false]); exact vwA)
      | cons x rest ih =>
        intro pre hpre hi
        have hlt : decide ((pre.length : Int) < (ps.length : Int)) = true := by rw [← hpre]; exact lt_app _ _ _
        have hat : (encI ps)[pre.length]? = some (ii x) := by rw [← hpre]; exact encI_at _ _ _
        have hw := wrapS (n := pre.length) (by have := congrArg List.length hpre; simp at this; omega)
        refine loopN_k fun K1 hK1 => ?_
        unfold ac149_l0
        cases hx : (x == t.id) with
        | true =>
          simp only [idxF, hx, if_true] at hi
          (repeat' (first | ((with_reducible first | refine qqT fun C hC => ?_ | refine qqU fun C hC => ?_ | intro C hC); simp only [go_sem, hlt, hat, hx]; ((with_reducible first | refine finA hC ?_ | refine finD hC ?_); clear hC C)) | (with_reducible first | refine qqA fun K hK => ?_ | refine qqB fun K hK => ?_ | refine qqC fun K hK => ?_ | (refine qqD ?_; refine hK _ _ ?_; try clear hK K) | (refine qqE ?_; refine hK _ _ _ ?_ ?_; (focus kernel_rfl); try clear hK K) | (refine qqF ?_; refine hK _ _ ?_; try clear hK K) | refine qqG ?_ | refine qqH ?_ | refine qqI ?_ | refine qqJ ?_ | refine qqK ?_ | (refine qqL ?_; try clear hK K) | (refine qqM ?_; try clear hK K) | refine qqN ?_ | refine qqO ?_ | (refine qqP ?_ ?_; focus decide)) | ((with_reducible first | apply qqQ | apply qqR | apply qqS); focus (simp only [go_sem, hlt, hat, hx]; exact rfl)) | (with_reducible first | refine gk_tt ?_ | refine gk_ff ?_ | refine ck_t ?_ | refine ck_f ?_) | ((with_reducible first | refine gk_tf ?_ | refine gk_ft ?_ | refine gk_u ?_ | refine gk_u' ?_); first | (intro _ e; (first | rw [qqY] at e | rw [qqZ] at e); subst e) | (intro _ _ e e'; (first | rw [qqY] at e | rw [qqZ] at e); subst e; subst e'))))
          rw [hi]
          (refine retP_ret (List.range 40) rfl ?_; exact vwA)
        | false =>
          simp only [idxF, hx, Bool.false_eq_true, if_false] at hi
          (repeat' (first | ((with_reducible first | refine qqT fun C hC => ?_ | refine qqU fun C hC => ?_ | intro C hC); simp only [go_sem, hlt, hat, hx]; ((with_reducible first | refine finA hC ?_ | refine finD hC ?_); clear hC C)) | (with_reducible first | refine qqA fun K hK => ?_ | refine qqB fun K hK => ?_ | refine qqC fun K hK => ?_ | (refine qqD ?_; refine hK _ _ ?_; try clear hK K) | (refine qqE ?_; refine hK _ _ _ ?_ ?_; (focus kernel_rfl); try clear hK K) | (refine qqF ?_; refine hK _ _ ?_; try clear hK K) | refine qqG ?_ | refine qqH ?_ | refine qqI ?_ | refine qqJ ?_ | refine qqK ?_ | (refine qqL ?_; try clear hK K) | (refine qqM ?_; try clear hK K) | refine qqN ?_ | refine qqO ?_ | (refine qqP ?_ ?_; focus decide)) | ((with_reducible first | apply qqQ | apply qqR | apply qqS); focus (simp only [go_sem, hlt, hat, hx]; exact rfl)) | (with_reducible first | refine gk_tt ?_ | refine gk_ff ?_ | refine ck_t ?_ | refine ck_f ?_) | ((with_reducible first | refine gk_tf ?_ | refine gk_ft ?_ | refine gk_u ?_ | refine gk_u' ?_); first | (intro _ e; (first | rw [qqY] at e | rw [qqZ] at e); subst e) | (intro _ _ e e'; (first | rw [qqY] at e | rw [qqZ] at e); subst e; subst e'))))
          refine qqF ?_
          refine hK1 _ _ _ _ _ (LeB [0] (by refine ⟨?_, ?_, ?_⟩ <;> simp only [leFr, leFb, leHp, V.ren, V.renL, V.bd, V.bdL, allL, lt, Go.Ab.get, hget, List.map_cons, List.map_nil, List.length_cons, List.length_nil, List.length_append, List.getElem?_cons_zero, List.getElem?_cons_succ, List.getElem?_nil, Option.join_some, Option.join_none, List.getD_cons_zero, List.getD_cons_succ, List.getD_nil, Nat.reduceAdd, Nat.reduceLT, Nat.reduceEqDiff, Nat.zero_add, reduceIte, if_true, if_false, and_true, true_and, renL_vcells, allL_vcells, renL_pv, leBlk_some, eq_self, true_or, or_true, reduceCtorEq, false_or, hw, List.length_append, allL])) (ih (pre ++ [x]) (by simp [hpre]) (by simpa using hi))
    refine awp_loop_k _ (LeB [0] (by refine ⟨?_, ?_, ?_⟩ <;> simp only [leFr, leFb, leHp, V.ren, V.renL, V.bd, V.bdL, allL, lt, Go.Ab.get, hget, List.map_cons, List.map_nil, List.length_cons, List.length_nil, List.length_append, List.getElem?_cons_zero, List.getElem?_cons_succ, List.getElem?_nil, Option.join_some, Option.join_none, List.getD_cons_zero, List.getD_cons_succ, List.getD_nil, Nat.reduceAdd, Nat.reduceLT, Nat.reduceEqDiff, Nat.zero_add, reduceIte, if_true, if_false, and_true, true_and, renL_vcells, allL_vcells, renL_pv, leBlk_some, eq_self, true_or, or_true, reduceCtorEq, false_or, c0, allL])) (rows ps [] rfl rfl)
/-! ### paramOccurs -/
def poL (p : Int) : List Ty → Bool → Bool
  | [], b => b
  | t :: ts, b => poL p ts (if b then true else occP p t)
theorem poL_eq (p : Int) : ∀ (ts : List Ty) (b : Bool), poL p ts b = if b then true else occPL p ts
  | [], b => by cases b <;> rfl
  | t :: ts, b => by
    simp only [poL, poL_eq p ts, occPL]
    cases b <;> simp
set_option maxHeartbeats 2000000 in
theorem po_loop (p : Int) (k id : Int) (ss : List Ty) (hrec : ∀ t ∈ ss, PCall Try.prog 85 [t.enc, ii p] (bb (occP p t))) : PCall Try.prog 85 [(Ty.mk k id ss).enc, ii p] (bb (occP p (.mk k id ss))) := by
  refine PCall.intro' (ps := [bb (occP p (.mk k id ss))]) fn85 (by simp) fun hok => ?_
  have hss : ss.length ≤ 1099511627776 := by
    simp only [PV.okL, Ty.enc, PV.ok, encL_len, big] at hok; exact hok.1.2.2.1.1
  clear hok
  have hv : ∀ b, (if k == 2 then id == p else false) = b → occP p (.mk k id ss) = poL p ss b := fun b hb => by rw [poL_eq, ← hb]; rfl
  generalize hB : (if k == 2 then id == p else false) = B at hv
  have hv := hv B rfl
  unfold ac85
  simp only [argFr]
  have go : ∀ (K : Fr → Hp → Prop), (∀ fr H, awp Try.prog (AC.seq (AC.reg [⟨some 31, .mov (.tmp 5), none⟩, ⟨some 4, .mov (.tmp 31), none⟩]) AC.ret) (retP [RV.tmp 4] [bb (occP p (.mk k id ss))]) fr H → K fr H) →
     ∀ (rest pre : List Ty) (b : Bool), pre ++ rest = ss → occP p (.mk k id ss) = poL p rest b → loopN (awp Try.prog ac85_l0) (catch_ 0 (thn K (retP [RV.tmp 4] [bb (occP p (.mk k id ss))]))) (rest.length + 1)
     [(20, .pv (ii pre.length)), (19, .pv (ii ss.length)), (18, .pv (.list 3 (encL ss))), (5, .pv (bb b)), (1, .pv (ii p))] [] := by
    intro K hK rest
    induction rest with
    | nil =>
      intro pre b hpre hi
      have hpre : pre = ss := by simpa using hpre
      rw [hi] at hK ⊢
      rw [← hpre]
      refine loopN_k fun K1 hK1 => ?_
      unfold ac85_l0
      (repeat' (first | ((with_reducible first | refine qqT fun C hC => ?_ | refine qqU fun C hC => ?_ | intro C hC); simp only [go_sem, lt_end]; ((with_reducible first | refine finA hC ?_ | refine finD hC ?_); clear hC C)) | (with_reducible first | refine qqA fun K hK => ?_ | refine qqB fun K hK => ?_ | refine qqC fun K hK => ?_ | (refine qqD ?_; refine hK _ _ ?_; try clear hK K) | (refine qqE ?_; refine hK _ _ _ ?_ ?_; (focus kernel_rfl); try clear hK K) | (refine qqF ?_; refine hK _ _ ?_; try clear hK K) | refine qqG ?_ | refine qqH ?_ | refine qqI ?_ | refine qqJ ?_ | refine qqK ?_ | (refine qqL ?_; try clear hK K) | (refine qqM ?_; try clear hK K) | refine qqN ?_ | refine qqO ?_ | (refine qqP ?_ ?_; focus decide)) | ((with_reducible first | apply qqQ | apply qqR | apply qqS); focus (simp only [go_sem, lt_end]; exact rfl)) | (with_reducible first | refine gk_tt ?_ | refine gk_ff ?_ | refine ck_t ?_ | refine ck_f ?_) | ((with_reducible first | refine gk_tf ?_ | refine gk_ft ?_ | refine gk_u ?_ | refine gk_u' ?_); first | (intro _ e; (first | rw [qqY] at e | rw [qqZ] at e); subst e) | (intro _ _ e e'; (first | rw [qqY] at e | rw [qqZ] at e); subst e; subst e'))))
      (refine retP_ret (List.range 40) rfl ?_; (try simp only [poL, if_true, if_false, Bool.false_eq_true, Bool.not_true, Bool.not_false]); exact vwA)
    | cons x rest ih =>
      intro pre b hpre hi
      have hlt : decide ((pre.length : Int) < (ss.length : Int)) = true := by rw [← hpre]; exact lt_app _ _ _
      have hat : (encL ss)[pre.length]? = some x.enc := by rw [← hpre]; exact encL_at _ _ _
      have hw := wrapS (n := pre.length) (by have := congrArg List.length hpre; simp at this; omega)
      have hc := hrec x (by rw [← hpre]; simp)
      rw [eq_enc] at hc
      simp only [poL] at hi
      refine loopN_k fun K1 hK1 => ?_
      unfold ac85_l0
      cases b with
      | true =>
        (repeat' (first | ((with_reducible first | refine qqT fun C hC => ?_ | refine qqU fun C hC => ?_ | intro C hC); simp only [go_sem, hlt, hat, cells_enc, pcells_enc, Ty.tc]; ((with_reducible first | refine finA hC ?_ | refine finD hC ?_); clear hC C)) | (with_reducible first | refine qqA fun K hK => ?_ | refine qqB fun K hK => ?_ | refine qqC fun K hK => ?_ | (refine qqD ?_; refine hK _ _ ?_; try clear hK K) | (refine qqE ?_; refine hK _ _ _ ?_ ?_; (focus kernel_rfl); try clear hK K) | (refine qqF ?_; refine hK _ _ ?_; try clear hK K) | refine qqG ?_ | refine qqH ?_ | refine qqI ?_ | refine qqJ ?_ | refine qqK ?_ | (refine qqL ?_; try clear hK K) | (refine qqM ?_; try clear hK K) | refine qqN ?_ | refine qqO ?_ | (refine qqP ?_ ?_; focus decide)) | ((with_reducible first | apply qqQ | apply qqR | apply qqS); focus (simp only [go_sem, hlt, hat, cells_enc, pcells_enc, Ty.tc]; exact rfl)) | (with_reducible first | refine gk_tt ?_ | refine gk_ff ?_ | refine ck_t ?_ | refine ck_f ?_) | ((with_reducible first | refine gk_tf ?_ | refine gk_ft ?_ | refine gk_u ?_ | refine gk_u' ?_); first | (intro _ e; (first | rw [qqY] at e | rw [qqZ] at e); subst e) | (intro _ _ e e'; (first | rw [qqY] at e | rw [qqZ] at e); subst e; subst e'))))
        refine qqF ?_
        refine hK1 _ _ _ _ _ (LeB [] (by refine ⟨?_, ?_, ?_⟩ <;> simp only [leFr, leFb, leHp, V.ren, V.renL, V.bd, V.bdL, allL, lt, Go.Ab.get, hget, List.map_cons, List.map_nil, List.length_cons, List.length_nil, List.length_append, List.getElem?_cons_zero, List.getElem?_cons_succ, List.getElem?_nil, Option.join_some, Option.join_none, List.getD_cons_zero, List.getD_cons_succ, List.getD_nil, Nat.reduceAdd, Nat.reduceLT, Nat.reduceEqDiff, Nat.zero_add, reduceIte, if_true, if_false, and_true, true_and, renL_vcells, allL_vcells, renL_pv, leBlk_some, eq_self, true_or, or_true, reduceCtorEq, false_or, hw, List.length_append])) (ih (pre ++ [x]) true (by simp [hpre]) (by simpa using hi))
      | false =>
        cases hx : occP p x with
        | true =>
          rw [hx] at hi hc
          (repeat' (first | ((first | (with_reducible refine qqV fun C hC => ?_) | (with_reducible refine qqW fun C hC => ?_) | ((with_reducible intro C hC); (with_reducible refine qqX ?_))); (first | (simp only [go_sem, hlt, hat, cells_enc, pcells_enc, Ty.tc]; (first | ((with_reducible apply ACall.pure0 [] (hc)); (focus (exact vwA)))))); (simp only [go_sem, hlt, hat, cells_enc, pcells_enc, Ty.tc]); ((with_reducible first | refine finA hC ?_ | refine finD hC ?_); clear hC C)) | ((with_reducible first | refine qqT fun C hC => ?_ | refine qqU fun C hC => ?_ | intro C hC); simp only [go_sem, hlt, hat, cells_enc, pcells_enc, Ty.tc]; ((with_reducible first | refine finA hC ?_ | refine finD hC ?_); clear hC C)) | (with_reducible first | refine qqA fun K hK => ?_ | refine qqB fun K hK => ?_ | refine qqC fun K hK => ?_ | (refine qqD ?_; refine hK _ _ ?_; try clear hK K) | (refine qqE ?_; refine hK _ _ _ ?_ ?_; (focus kernel_rfl); try clear hK K) | (refine qqF ?_; refine hK _ _ ?_; try clear hK K) | refine qqG ?_ | refine qqH ?_ | refine qqI ?_ | refine qqJ ?_ | refine qqK ?_ | (refine qqL ?_; try clear hK K) | (refine qqM ?_; try clear hK K) | refine qqN ?_ | refine qqO ?_ | (refine qqP ?_ ?_; focus decide)) | ((with_reducible first | apply qqQ | apply qqR | apply qqS); focus (simp only [go_sem, hlt, hat, cells_enc, pcells_enc, Ty.tc]; exact rfl)) | (with_reducible first | refine gk_tt ?_ | refine gk_ff ?_ | refine ck_t ?_ | refine ck_f ?_) | ((with_reducible first | refine gk_tf ?_ | refine gk_ft ?_ | refine gk_u ?_ | refine gk_u' ?_); first | (intro _ e; (first | rw [qqY] at e | rw [qqZ] at e); subst e) | (intro _ _ e e'; (first | rw [qqY] at e | rw [qqZ] at e); subst e; subst e'))))
          refine qqF ?_
          refine hK1 _ _ _ _ _ (LeB [] (by refine ⟨?_, ?_, ?_⟩ <;> simp only [leFr, leFb, leHp, V.ren, V.renL, V.bd, V.bdL, allL, lt, Go.Ab.get, hget, List.map_cons, List.map_nil, List.length_cons, List.length_nil, List.length_append, List.getElem?_cons_zero, List.getElem?_cons_succ, List.getElem?_nil, Option.join_some, Option.join_none, List.getD_cons_zero, List.getD_cons_succ, List.getD_nil, Nat.reduceAdd, Nat.reduceLT, Nat.reduceEqDiff, Nat.zero_add, reduceIte, if_true, if_false, and_true, true_and, renL_vcells, allL_vcells, renL_pv, leBlk_some, eq_self, true_or, or_true, reduceCtorEq, false_or, hw, List.length_append])) (ih (pre ++ [x]) true (by simp [hpre]) (by simpa using hi))
        | false =>
          rw [hx] at hi hc
          (repeat' (first | ((first | (with_reducible refine qqV fun C hC => ?_) | (with_reducible refine qqW fun C hC => ?_) | ((with_reducible intro C hC); (with_reducible refine qqX ?_))); (first | (simp only [go_sem, hlt, hat, cells_enc, pcells_enc, Ty.tc]; (first | ((with_reducible apply ACall.pure0 [] (hc)); (focus (exact vwA)))))); (simp only [go_sem, hlt, hat, cells_enc, pcells_enc, Ty.tc]); ((with_reducible first | refine finA hC ?_ | refine finD hC ?_); clear hC C)) | ((with_reducible first | refine qqT fun C hC => ?_ | refine qqU fun C hC => ?_ | intro C hC); simp only [go_sem, hlt, hat, cells_enc, pcells_enc, Ty.tc]; ((with_reducible first | refine finA hC ?_ | refine finD hC ?_); clear hC C)) | (with_reducible first | refine qqA fun K hK => ?_ | refine qqB fun K hK => ?_ | refine qqC fun K hK => ?_ | (refine qqD ?_; refine hK _ _ ?_; try clear hK K) | (refine qqE ?_; refine hK _ _ _ ?_ ?_; (focus kernel_rfl); try clear hK K) | (refine qqF ?_; refine hK _ _ ?_; try clear hK K) | refine qqG ?_ | refine qqH ?_ | refine qqI ?_ | refine qqJ ?_ | refine qqK ?_ | (refine qqL ?_; try clear hK K) | (refine qqM ?_; try clear hK K) | refine qqN ?_ | refine qqO ?_ | (refine qqP ?_ ?_; focus decide)) | ((with_reducible first | apply qqQ | apply qqR | apply qqS); focus (simp only [go_sem, hlt, hat, cells_enc, pcells_enc, Ty.tc]; exact rfl)) | (with_reducible first | refine gk_tt ?_ | refine gk_ff ?_ | refine ck_t ?_ | refine ck_f ?_) | ((with_reducible first | refine gk_tf ?_ | refine gk_ft ?_ | refine gk_u ?_ | refine gk_u' ?_); first | (intro _ e; (first | rw [qqY] at e | rw [qqZ] at e); subst e) | (intro _ _ e e'; (first | rw [qqY] at e | rw [qqZ] at e); subst e; subst e'))))
          refine qqF ?_
          refine hK1 _ _ _ _ _ (LeB [] (by refine ⟨?_, ?_, ?_⟩ <;> simp only [leFr, leFb, leHp, V.ren, V.renL, V.bd, V.bdL, allL, lt, Go.Ab.get, hget, List.map_cons, List.map_nil, List.length_cons, List.length_nil, List.length_append, List.getElem?_cons_zero, List.getElem?_cons_succ, List.getElem?_nil, Option.join_some, Option.join_none, List.getD_cons_zero, List.getD_cons_succ, List.getD_nil, Nat.reduceAdd, Nat.reduceLT, Nat.reduceEqDiff, Nat.zero_add, reduceIte, if_true, if_false, and_true, true_and, renL_vcells, allL_vcells, renL_pv, leBlk_some, eq_self, true_or, or_true, reduceCtorEq, false_or, hw, List.length_append])) (ih (pre ++ [x]) false (by simp [hpre]) (by simpa using hi))
  cases hk : (k == 2) with
  | false =>
    rw [hk] at hB
    simp only [Bool.false_eq_true, if_false] at hB
    subst hB
    (repeat' (first | ((with_reducible first | refine qqT fun C hC => ?_ | refine qqU fun C hC => ?_ | intro C hC); simp only [go_sem, cells_enc, Ty.tc, Ty.kd, Ty.id, Ty.args, hk, encL_len]; ((with_reducible first | refine finA hC ?_ | refine finD hC ?_); clear hC C)) | (with_reducible first | refine qqA fun K hK => ?_ | refine qqB fun K hK => ?_ | refine qqC fun K hK => ?_ | (refine qqD ?_; refine hK _ _ ?_; try clear hK K) | (refine qqE ?_; refine hK _ _ _ ?_ ?_; (focus kernel_rfl); try clear hK K) | (refine qqF ?_; refine hK _ _ ?_; try clear hK K) | refine qqG ?_ | refine qqH ?_ | refine qqI ?_ | refine qqJ ?_ | refine qqK ?_ | (refine qqL ?_; try clear hK K) | (refine qqM ?_; try clear hK K) | refine qqN ?_ | refine qqO ?_ | (refine qqP ?_ ?_; focus decide)) | ((with_reducible first | apply qqQ | apply qqR | apply qqS); focus (simp only [go_sem, cells_enc, Ty.tc, Ty.kd, Ty.id, Ty.args, hk, encL_len]; exact rfl)) | (with_reducible first | refine gk_tt ?_ | refine gk_ff ?_ | refine ck_t ?_ | refine ck_f ?_) | ((with_reducible first | refine gk_tf ?_ | refine gk_ft ?_ | refine gk_u ?_ | refine gk_u' ?_); first | (intro _ e; (first | rw [qqY] at e | rw [qqZ] at e); subst e) | (intro _ _ e e'; (first | rw [qqY] at e | rw [qqZ] at e); subst e; subst e'))))
    refine awp_loop_k _ (LeB [] (by refine ⟨?_, ?_, ?_⟩ <;> simp only [leFr, leFb, leHp, V.ren, V.renL, V.bd, V.bdL, allL, lt, Go.Ab.get, hget, List.map_cons, List.map_nil, List.length_cons, List.length_nil, List.length_append, List.getElem?_cons_zero, List.getElem?_cons_succ, List.getElem?_nil, Option.join_some, Option.join_none, List.getD_cons_zero, List.getD_cons_succ, List.getD_nil, Nat.reduceAdd, Nat.reduceLT, Nat.reduceEqDiff, Nat.zero_add, reduceIte, if_true, if_false, and_true, true_and, renL_vcells, allL_vcells, renL_pv, leBlk_some, eq_self, true_or, or_true, reduceCtorEq, false_or, c0])) (go K hK ss [] false rfl hv)
  | true =>
    rw [hk, if_pos rfl] at hB
    cases B with
    | true =>
      (repeat' (first | ((with_reducible first | refine qqT fun C hC => ?_ | refine qqU fun C hC => ?_ | intro C hC); simp only [go_sem, cells_enc, Ty.tc, Ty.kd, Ty.id, Ty.args, hk, hB, encL_len]; ((with_reducible first | refine finA hC ?_ | refine finD hC ?_); clear hC C)) | (with_reducible first | refine qqA fun K hK => ?_ | refine qqB fun K hK => ?_ | refine qqC fun K hK => ?_ | (refine qqD ?_; refine hK _ _ ?_; try clear hK K) | (refine qqE ?_; refine hK _ _ _ ?_ ?_; (focus kernel_rfl); try clear hK K) | (refine qqF ?_; refine hK _ _ ?_; try clear hK K) | refine qqG ?_ | refine qqH ?_ | refine qqI ?_ | refine qqJ ?_ | refine qqK ?_ | (refine qqL ?_; try clear hK K) | (refine qqM ?_; try clear hK K) | refine qqN ?_ | refine qqO ?_ | (refine qqP ?_ ?_; focus decide)) | ((with_reducible first | apply qqQ | apply qqR | apply qqS); focus (simp only [go_sem, cells_enc, Ty.tc, Ty.kd, Ty.id, Ty.args, hk, hB, encL_len]; exact rfl)) | (with_reducible first | refine gk_tt ?_ | refine gk_ff ?_ | refine ck_t ?_ | refine ck_f ?_) | ((with_reducible first | refine gk_tf ?_ | refine gk_ft ?_ | refine gk_u ?_ | refine gk_u' ?_); first | (intro _ e; (first | rw [qqY] at e | rw [qqZ] at e); subst e) | (intro _ _ e e'; (first | rw [qqY] at e | rw [qqZ] at e); subst e; subst e'))))
      refine awp_loop_k _ (LeB [] (by refine ⟨?_, ?_, ?_⟩ <;> simp only [leFr, leFb, leHp, V.ren, V.renL, V.bd, V.bdL, allL, lt, Go.Ab.get, hget, List.map_cons, List.map_nil, List.length_cons, List.length_nil, List.length_append, List.getElem?_cons_zero, List.getElem?_cons_succ, List.getElem?_nil, Option.join_some, Option.join_none, List.getD_cons_zero, List.getD_cons_succ, List.getD_nil, Nat.reduceAdd, Nat.reduceLT, Nat.reduceEqDiff, Nat.zero_add, reduceIte, if_true, if_false, and_true, true_and, renL_vcells, allL_vcells, renL_pv, leBlk_some, eq_self, true_or, or_true, reduceCtorEq, false_or, c0])) (go K hK ss [] true rfl hv)
    | false =>
      (repeat' (first | ((with_reducible first | refine qqT fun C hC => ?_ | refine qqU fun C hC => ?_ | intro C hC); simp only [go_sem, cells_enc, Ty.tc, Ty.kd, Ty.id, Ty.args, hk, hB, encL_len]; ((with_reducible first | refine finA hC ?_ | refine finD hC ?_); clear hC C)) | (with_reducible first | refine qqA fun K hK => ?_ | refine qqB fun K hK => ?_ | refine qqC fun K hK => ?_ | (refine qqD ?_; refine hK _ _ ?_; try clear hK K) | (refine qqE ?_; refine hK _ _ _ ?_ ?_; (focus kernel_rfl); try clear hK K) | (refine qqF ?_; refine hK _ _ ?_; try clear hK K) | refine qqG ?_ | refine qqH ?_ | refine qqI ?_ | refine qqJ ?_ | refine qqK ?_ | (refine qqL ?_; try clear hK K) | (refine qqM ?_; try clear hK K) | refine qqN ?_ | refine qqO ?_ | (refine qqP ?_ ?_; focus decide)) | ((with_reducible first | apply qqQ | apply qqR | apply qqS); focus (simp only [go_sem, cells_enc, Ty.tc, Ty.kd, Ty.id, Ty.args, hk, hB, encL_len]; exact rfl)) | (with_reducible first | refine gk_tt ?_ | refine gk_ff ?_ | refine ck_t ?_ | refine ck_f ?_) | ((with_reducible first | refine gk_tf ?_ | refine gk_ft ?_ | refine gk_u ?_ | refine gk_u' ?_); first | (intro _ e; (first | rw [qqY] at e | rw [qqZ] at e); subst e) | (intro _ _ e e'; (first | rw [qqY] at e | rw [qqZ] at e); subst e; subst e'))))
      refine awp_loop_k _ (LeB [] (by refine ⟨?_, ?_, ?_⟩ <;> simp only [leFr, leFb, leHp, V.ren, V.renL, V.bd, V.bdL, allL, lt, Go.Ab.get, hget, List.map_cons, List.map_nil, List.length_cons, List.length_nil, List.length_append, List.getElem?_cons_zero, List.getElem?_cons_succ, List.getElem?_nil, Option.join_some, Option.join_none, List.getD_cons_zero, List.getD_cons_succ, List.getD_nil, Nat.reduceAdd, Nat.reduceLT, Nat.reduceEqDiff, Nat.zero_add, reduceIte, if_true, if_false, and_true, true_and, renL_vcells, allL_vcells, renL_pv, leBlk_some, eq_self, true_or, or_true, reduceCtorEq, false_or, c0])) (go K hK ss [] false rfl hv)
theorem po_ok (p : Int) : ∀ t : Ty, PCall Try.prog 85 [t.enc, ii p] (bb (occP p t))
  | .mk k id ss => po_loop p k id ss fun t ht => po_ok p t
termination_by t => SizeOf.sizeOf t
decreasing_by
  have := List.sizeOf_lt_of_mem ht
  simp only [Ty.mk.sizeOf_spec]; omega
/-! ### ApplyArgs -/
set_option maxHeartbeats 4000000 in
theorem ra_loop (ps : List Int) (xs : List Ty) (k id : Int) (ss : List Ty) (hrec : ∀ t ∈ ss, PCall Try.prog 86 [t.enc, .list 1 (encI ps), .list 3 (encL xs)] (raT ps xs t).enc) : PCall Try.prog 86 [(Ty.mk k id ss).enc, .list 1 (encI ps), .list 3 (encL xs)] (raT ps xs (.mk k id ss)).enc := by
  refine PCall.intro' (ps := [(raT ps xs (.mk k id ss)).enc]) fn86 (by simp) fun hok => ?_
  have hss : ss.length ≤ 1099511627776 := by
    simp only [PV.okL, Ty.enc, PV.ok, encL_len, big] at hok; exact hok.1.2.2.1.1
  clear hok
  have hpx := pidx_ok (.mk k id ss) ps
  simp only [Ty.kd, Ty.id, Ty.enc] at hpx
  rcases pI_cases ps k id with ⟨hp, he⟩ | ⟨hp, he⟩
  · rw [he] at hpx
    have hge : decide (((parI ps id : Nat) : Int) ≥ 0) = true := decide_eq_true (by omega)
    unfold ac86
    simp only [argFr]
    cases hl : decide (((parI ps id : Nat) : Int) < (xs.length : Int)) with
    | true =>
      have hlt : parI ps id < xs.length := by have := of_decide_eq_true hl; omega
      have hat : (encL xs)[parI ps id]? = some (xs.getD (parI ps id) zT).enc := by
        rw [encL_map, List.getElem?_map, List.getElem?_eq_getElem hlt, List.getD_eq_getElem?_getD, List.getElem?_eq_getElem hlt]; rfl
      have hr : raT ps xs (.mk k id ss) = xs.getD (parI ps id) zT := by simp [raT, hp, hlt]
      rw [hr]
      (repeat' (first | ((first | (with_reducible refine qqV fun C hC => ?_) | (with_reducible refine qqW fun C hC => ?_) | ((with_reducible intro C hC); (with_reducible refine qqX ?_))); (first | (simp only [go_sem, cells_enc, Ty.tc, Ty.kd, Ty.id, Ty.args, hge, hl, encL_len, hat, pcells_enc]; (first | ((with_reducible apply ACall.pure0 [] (hpx)); (focus (exact vwA)))))); (simp only [go_sem, cells_enc, Ty.tc, Ty.kd, Ty.id, Ty.args, hge, hl, encL_len, hat, pcells_enc]); ((with_reducible first | refine finA hC ?_ | refine finD hC ?_); clear hC C)) | ((with_reducible first | refine qqT fun C hC => ?_ | refine qqU fun C hC => ?_ | intro C hC); simp only [go_sem, cells_enc, Ty.tc, Ty.kd, Ty.id, Ty.args, hge, hl, encL_len, hat, pcells_enc]; ((with_reducible first | refine finA hC ?_ | refine finD hC ?_); clear hC C)) | (with_reducible first | refine qqA fun K hK => ?_ | refine qqB fun K hK => ?_ | refine qqC fun K hK => ?_ | (refine qqD ?_; refine hK _ _ ?_; try clear hK K) | (refine qqE ?_; refine hK _ _ _ ?_ ?_; (focus kernel_rfl); try clear hK K) | (refine qqF ?_; refine hK _ _ ?_; try clear hK K) | refine qqG ?_ | refine qqH ?_ | refine qqI ?_ | refine qqJ ?_ | refine qqK ?_ | (refine qqL ?_; try clear hK K) | (refine qqM ?_; try clear hK K) | refine qqN ?_ | refine qqO ?_ | (refine qqP ?_ ?_; focus decide)) | ((with_reducible first | apply qqQ | apply qqR | apply qqS); focus (simp only [go_sem, cells_enc, Ty.tc, Ty.kd, Ty.id, Ty.args, hge, hl, encL_len, hat, pcells_enc]; exact rfl)) | (with_reducible first | refine gk_tt ?_ | refine gk_ff ?_ | refine ck_t ?_ | refine ck_f ?_) | ((with_reducible first | refine gk_tf ?_ | refine gk_ft ?_ | refine gk_u ?_ | refine gk_u' ?_); first | (intro _ e; (first | rw [qqY] at e | rw [qqZ] at e); subst e) | (intro _ _ e e'; (first | rw [qqY] at e | rw [qqZ] at e); subst e; subst e'))))
      refine retP_ret [] rfl (.cons _ _ _ _ ?_ .nil)
      rw [eq_enc]
      exact vwA
    | false =>
      have hlt : ¬ parI ps id < xs.length := by have := of_decide_eq_false hl; omega
      have hr : raT ps xs (.mk k id ss) = .mk k id ss := by simp [raT, hp, hlt]
      rw [hr]
      (repeat' (first | ((first | (with_reducible refine qqV fun C hC => ?_) | (with_reducible refine qqW fun C hC => ?_) | ((with_reducible intro C hC); (with_reducible refine qqX ?_))); (first | (simp only [go_sem, cells_enc, Ty.tc, Ty.kd, Ty.id, Ty.args, hge, hl, encL_len]; (first | ((with_reducible apply ACall.pure0 [] (hpx)); (focus (exact vwA)))))); (simp only [go_sem, cells_enc, Ty.tc, Ty.kd, Ty.id, Ty.args, hge, hl, encL_len]); ((with_reducible first | refine finA hC ?_ | refine finD hC ?_); clear hC C)) | ((with_reducible first | refine qqT fun C hC => ?_ | refine qqU fun C hC => ?_ | intro C hC); simp only [go_sem, cells_enc, Ty.tc, Ty.kd, Ty.id, Ty.args, hge, hl, encL_len]; ((with_reducible first | refine finA hC ?_ | refine finD hC ?_); clear hC C)) | (with_reducible first | refine qqA fun K hK => ?_ | refine qqB fun K hK => ?_ | refine qqC fun K hK => ?_ | (refine qqD ?_; refine hK _ _ ?_; try clear hK K) | (refine qqE ?_; refine hK _ _ _ ?_ ?_; (focus kernel_rfl); try clear hK K) | (refine qqF ?_; refine hK _ _ ?_; try clear hK K) | refine qqG ?_ | refine qqH ?_ | refine qqI ?_ | refine qqJ ?_ | refine qqK ?_ | (refine qqL ?_; try clear hK K) | (refine qqM ?_; try clear hK K) | refine qqN ?_ | refine qqO ?_ | (refine qqP ?_ ?_; focus decide)) | ((with_reducible first | apply qqQ | apply qqR | apply qqS); focus (simp only [go_sem, cells_enc, Ty.tc, Ty.kd, Ty.id, Ty.args, hge, hl, encL_len]; exact rfl)) | (with_reducible first | refine gk_tt ?_ | refine gk_ff ?_ | refine ck_t ?_ | refine ck_f ?_) | ((with_reducible first | refine gk_tf ?_ | refine gk_ft ?_ | refine gk_u ?_ | refine gk_u' ?_); first | (intro _ e; (first | rw [qqY] at e | rw [qqZ] at e); subst e) | (intro _ _ e e'; (first | rw [qqY] at e | rw [qqZ] at e); subst e; subst e'))))
      refine retP_ret [] rfl (.cons _ _ _ _ ?_ .nil)
      rw [eq_enc]
      exact vwA
  · rw [he] at hpx
    have hr : raT ps xs (.mk k id ss) = .mk k id (ss.map (raT ps xs)) := by simp [raT, hp, raL_map]
    rw [hr]
    unfold ac86
    simp only [argFr]
    (repeat' (first | ((first | (with_reducible refine qqV fun C hC => ?_) | (with_reducible refine qqW fun C hC => ?_) | ((with_reducible intro C hC); (with_reducible refine qqX ?_))); (first | (simp only [go_sem, cells_enc, Ty.tc, Ty.kd, Ty.id, Ty.args, encL_len]; (first | ((with_reducible apply ACall.pure0 [] (hpx)); (focus (exact vwA)))))); (simp only [go_sem, cells_enc, Ty.tc, Ty.kd, Ty.id, Ty.args, encL_len]); ((with_reducible first | refine finA hC ?_ | refine finD hC ?_); clear hC C)) | ((with_reducible first | refine qqT fun C hC => ?_ | refine qqU fun C hC => ?_ | intro C hC); simp only [go_sem, cells_enc, Ty.tc, Ty.kd, Ty.id, Ty.args, encL_len]; ((with_reducible first | refine finA hC ?_ | refine finD hC ?_); clear hC C)) | (with_reducible first | refine qqA fun K hK => ?_ | refine qqB fun K hK => ?_ | refine qqC fun K hK => ?_ | (refine qqD ?_; refine hK _ _ ?_; try clear hK K) | (refine qqE ?_; refine hK _ _ _ ?_ ?_; (focus kernel_rfl); try clear hK K) | (refine qqF ?_; refine hK _ _ ?_; try clear hK K) | refine qqG ?_ | refine qqH ?_ | refine qqI ?_ | refine qqJ ?_ | refine qqK ?_ | (refine qqL ?_; try clear hK K) | (refine qqM ?_; try clear hK K) | refine qqN ?_ | refine qqO ?_ | (refine qqP ?_ ?_; focus decide)) | ((with_reducible first | apply qqQ | apply qqR | apply qqS); focus (simp only [go_sem, cells_enc, Ty.tc, Ty.kd, Ty.id, Ty.args, encL_len]; exact rfl)) | (with_reducible first | refine gk_tt ?_ | refine gk_ff ?_ | refine ck_t ?_ | refine ck_f ?_) | ((with_reducible first | refine gk_tf ?_ | refine gk_ft ?_ | refine gk_u ?_ | refine gk_u' ?_); first | (intro _ e; (first | rw [qqY] at e | rw [qqZ] at e); subst e) | (intro _ _ e e'; (first | rw [qqY] at e | rw [qqZ] at e); subst e; subst e'))))
    have rows : ∀ (rest pre : List Ty), pre ++ rest = ss → loopN (awp Try.prog ac86_l0) (catch_ 0 (thn K (retP [RV.cell 6 3 true] [(Ty.mk k id (List.map (raT ps xs) ss)).enc]))) (rest.length + 1)
       [(28, .pv (ii pre.length)), (27, .pv (ii ss.length)), (26, .pv (.list 3 (encL ss))), (8, .row 2 pre.length false), (6, .ptr 1 0 0), (3, .ptr 0 0 0), (2, .pv (.list 3 (encL xs))), (1, .pv (.list 1 (encI ps)))]
       [some ⟨false, 26, 3, [[.pv (ii k), .pv (ii id), .pv (.list 3 (encL ss))]], none⟩, some ⟨false, 26, 3, [[.pv (ii 0), .pv (ii 0), .pv (.lit (.slice none 0 0))]], none⟩, some ⟨false, 26, 3, (pre.map (raT ps xs)).map Ty.tc, none⟩] := by
      intro rest
      induction rest with
      | nil =>
        intro pre hpre
        have hpre : pre = ss := by simpa using hpre
        subst hpre
        refine loopN_k fun K1 hK1 => ?_
        unfold ac86_l0
        (repeat' (first | ((with_reducible first | refine qqT fun C hC => ?_ | refine qqU fun C hC => ?_ | intro C hC); simp only [go_sem, lt_end]; ((with_reducible first | refine finA hC ?_ | refine finD hC ?_); clear hC C)) | (with_reducible first | refine qqA fun K hK => ?_ | refine qqB fun K hK => ?_ | refine qqC fun K hK => ?_ | (refine qqD ?_; refine hK _ _ ?_; try clear hK K) | (refine qqE ?_; refine hK _ _ _ ?_ ?_; (focus kernel_rfl); try clear hK K) | (refine qqF ?_; refine hK _ _ ?_; try clear hK K) | refine qqG ?_ | refine qqH ?_ | refine qqI ?_ | refine qqJ ?_ | refine qqK ?_ | (refine qqL ?_; try clear hK K) | (refine qqM ?_; try clear hK K) | refine qqN ?_ | refine qqO ?_ | (refine qqP ?_ ?_; focus decide)) | ((with_reducible first | apply qqQ | apply qqR | apply qqS); focus (simp only [go_sem, lt_end]; exact rfl)) | (with_reducible first | refine gk_tt ?_ | refine gk_ff ?_ | refine ck_t ?_ | refine ck_f ?_) | ((with_reducible first | refine gk_tf ?_ | refine gk_ft ?_ | refine gk_u ?_ | refine gk_u' ?_); first | (intro _ e; (first | rw [qqY] at e | rw [qqZ] at e); subst e) | (intro _ _ e e'; (first | rw [qqY] at e | rw [qqZ] at e); subst e; subst e'))))
        refine retP_ret [2] rfl (.cons _ _ _ _ ?_ .nil)
        rw [enc_eq]
        exact .agg _ _ (.cons _ _ _ _ (.pv _) (.cons _ _ _ _ (.pv _) (.cons _ _ _ _ (row_tc (xs := pre.map (raT ps xs)) (by decide) rfl (List.length_map _).symm) .nil)))
      | cons t rest ih =>
        intro pre hpre
        have hlt : decide ((pre.length : Int) < (ss.length : Int)) = true := by subst hpre; exact lt_app _ _ _
        have hat : (encL ss)[pre.length]? = some t.enc := by subst hpre; exact encL_at _ _ _
        have hb : pre.length + 1 ≤ big := by have := congrArg List.length hpre; simp at this; unfold big; omega
        have hw := wrapS (n := pre.length) (by unfold big at hb; omega)
        have hc := hrec t (by subst hpre; simp)
        rw [eq_enc t] at hc
        refine loopN_k fun K1 hK1 => ?_
        unfold ac86_l0
        (repeat' (first | ((first | (with_reducible refine qqV fun C hC => ?_) | (with_reducible refine qqW fun C hC => ?_) | ((with_reducible intro C hC); (with_reducible refine qqX ?_))); (first | (simp only [go_sem, hlt, hat, cells_enc, pcells_enc, Ty.tc, scal_enc, List.length_map, hb]; (first | ((with_reducible apply ACall.pure0 [] (hc)); (focus (exact vwA)))))); (simp only [go_sem, hlt, hat, cells_enc, pcells_enc, Ty.tc, scal_enc, List.length_map, hb]); ((with_reducible first | refine finA hC ?_ | refine finD hC ?_); clear hC C)) | ((with_reducible first | refine qqT fun C hC => ?_ | refine qqU fun C hC => ?_ | intro C hC); simp only [go_sem, hlt, hat, cells_enc, pcells_enc, Ty.tc, scal_enc, List.length_map, hb]; ((with_reducible first | refine finA hC ?_ | refine finD hC ?_); clear hC C)) | (with_reducible first | refine qqA fun K hK => ?_ | refine qqB fun K hK => ?_ | refine qqC fun K hK => ?_ | (refine qqD ?_; refine hK _ _ ?_; try clear hK K) | (refine qqE ?_; refine hK _ _ _ ?_ ?_; (focus kernel_rfl); try clear hK K) | (refine qqF ?_; refine hK _ _ ?_; try clear hK K) | refine qqG ?_ | refine qqH ?_ | refine qqI ?_ | refine qqJ ?_ | refine qqK ?_ | (refine qqL ?_; try clear hK K) | (refine qqM ?_; try clear hK K) | refine qqN ?_ | refine qqO ?_ | (refine qqP ?_ ?_; focus decide)) | ((with_reducible first | apply qqQ | apply qqR | apply qqS); focus (simp only [go_sem, hlt, hat, cells_enc, pcells_enc, Ty.tc, scal_enc, List.length_map, hb]; exact rfl)) | (with_reducible first | refine gk_tt ?_ | refine gk_ff ?_ | refine ck_t ?_ | refine ck_f ?_) | ((with_reducible first | refine gk_tf ?_ | refine gk_ft ?_ | refine gk_u ?_ | refine gk_u' ?_); first | (intro _ e; (first | rw [qqY] at e | rw [qqZ] at e); subst e) | (intro _ _ e e'; (first | rw [qqY] at e | rw [qqZ] at e); subst e; subst e'))))
        rw [show ∀ c, List.map Ty.tc (List.map (raT ps xs) pre) ++ [c] = List.map Ty.tc (List.map (raT ps xs) pre) ++ [c] from fun _ => rfl]
        refine qqF ?_
        refine hK1 _ _ _ _ _ (LeB [0, 1, 5] (by refine ⟨?_, ?_, ?_⟩ <;> simp only [leFr, leFb, leHp, V.ren, V.renL, V.bd, V.bdL, allL, lt, Go.Ab.get, hget, List.map_cons, List.map_nil, List.length_cons, List.length_nil, List.length_append, List.getElem?_cons_zero, List.getElem?_cons_succ, List.getElem?_nil, Option.join_some, Option.join_none, List.getD_cons_zero, List.getD_cons_succ, List.getD_nil, Nat.reduceAdd, Nat.reduceLT, Nat.reduceEqDiff, Nat.zero_add, reduceIte, if_true, if_false, and_true, true_and, renL_vcells, allL_vcells, renL_pv, leBlk_some, eq_self, true_or, or_true, reduceCtorEq, false_or, hw, List.length_append, List.map_append, List.map_cons, List.map_nil, renL_tc, renL_tc1, allL_tc, allL_app, bdL_tc, allL, Ty.tc])) (ih (pre ++ [t]) (by simp [hpre]))
    have first : loopN (awp Try.prog ac86_l0) (catch_ 0 (thn K (retP [RV.cell 6 3 true] [(Ty.mk k id (List.map (raT ps xs) ss)).enc]))) (ss.length + 1)
       [(28, .pv (ii 0)), (27, .pv (ii ss.length)), (26, .pv (.list 3 (encL ss))), (8, .pv (.lit (.slice none 0 0))), (6, .ptr 1 0 0), (3, .ptr 0 0 0), (2, .pv (.list 3 (encL xs))), (1, .pv (.list 1 (encI ps)))]
       [some ⟨false, 26, 3, [[.pv (ii k), .pv (ii id), .pv (.list 3 (encL ss))]], none⟩, some ⟨false, 26, 3, [[.pv (ii 0), .pv (ii 0), .pv (.lit (.slice none 0 0))]], none⟩] := by
      refine loopN_k fun K1 hK1 => ?_
      unfold ac86_l0
      cases hs : ss with
      | nil =>
        subst hs
        (repeat' (first | ((with_reducible first | refine qqT fun C hC => ?_ | refine qqU fun C hC => ?_ | intro C hC); simp only [go_sem, lt_zero]; ((with_reducible first | refine finA hC ?_ | refine finD hC ?_); clear hC C)) | (with_reducible first | refine qqA fun K hK => ?_ | refine qqB fun K hK => ?_ | refine qqC fun K hK => ?_ | (refine qqD ?_; refine hK _ _ ?_; try clear hK K) | (refine qqE ?_; refine hK _ _ _ ?_ ?_; (focus kernel_rfl); try clear hK K) | (refine qqF ?_; refine hK _ _ ?_; try clear hK K) | refine qqG ?_ | refine qqH ?_ | refine qqI ?_ | refine qqJ ?_ | refine qqK ?_ | (refine qqL ?_; try clear hK K) | (refine qqM ?_; try clear hK K) | refine qqN ?_ | refine qqO ?_ | (refine qqP ?_ ?_; focus decide)) | ((with_reducible first | apply qqQ | apply qqR | apply qqS); focus (simp only [go_sem, lt_zero]; exact rfl)) | (with_reducible first | refine gk_tt ?_ | refine gk_ff ?_ | refine ck_t ?_ | refine ck_f ?_) | ((with_reducible first | refine gk_tf ?_ | refine gk_ft ?_ | refine gk_u ?_ | refine gk_u' ?_); first | (intro _ e; (first | rw [qqY] at e | rw [qqZ] at e); subst e) | (intro _ _ e e'; (first | rw [qqY] at e | rw [qqZ] at e); subst e; subst e'))))
        refine retP_ret [] rfl (.cons _ _ _ _ ?_ .nil)
        rw [enc_eq]
        exact .agg _ _ (.cons _ _ _ _ (.pv _) (.cons _ _ _ _ (.pv _) (.cons _ _ _ _ Vw_nil .nil)))
      | cons t rest =>
        subst hs
        have lt0 : decide ((0 : Int) < ((t :: rest).length : Int)) = true := by simp
        have hat : (encL (t :: rest))[0]? = some t.enc := rfl
        have hc := hrec t (by simp)
        rw [eq_enc t] at hc
        (repeat' (first | ((first | (with_reducible refine qqV fun C hC => ?_) | (with_reducible refine qqW fun C hC => ?_) | ((with_reducible intro C hC); (with_reducible refine qqX ?_))); (first | (simp only [go_sem, lt0, hat, cells_enc, pcells_enc, Ty.tc, scal_enc]; (first | ((with_reducible apply ACall.pure0 [] (hc)); (focus (exact vwA)))))); (simp only [go_sem, lt0, hat, cells_enc, pcells_enc, Ty.tc, scal_enc]); ((with_reducible first | refine finA hC ?_ | refine finD hC ?_); clear hC C)) | ((with_reducible first | refine qqT fun C hC => ?_ | refine qqU fun C hC => ?_ | intro C hC); simp only [go_sem, lt0, hat, cells_enc, pcells_enc, Ty.tc, scal_enc]; ((with_reducible first | refine finA hC ?_ | refine finD hC ?_); clear hC C)) | (with_reducible first | refine qqA fun K hK => ?_ | refine qqB fun K hK => ?_ | refine qqC fun K hK => ?_ | (refine qqD ?_; refine hK _ _ ?_; try clear hK K) | (refine qqE ?_; refine hK _ _ _ ?_ ?_; (focus kernel_rfl); try clear hK K) | (refine qqF ?_; refine hK _ _ ?_; try clear hK K) | refine qqG ?_ | refine qqH ?_ | refine qqI ?_ | refine qqJ ?_ | refine qqK ?_ | (refine qqL ?_; try clear hK K) | (refine qqM ?_; try clear hK K) | refine qqN ?_ | refine qqO ?_ | (refine qqP ?_ ?_; focus decide)) | ((with_reducible first | apply qqQ | apply qqR | apply qqS); focus (simp only [go_sem, lt0, hat, cells_enc, pcells_enc, Ty.tc, scal_enc]; exact rfl)) | (with_reducible first | refine gk_tt ?_ | refine gk_ff ?_ | refine ck_t ?_ | refine ck_f ?_) | ((with_reducible first | refine gk_tf ?_ | refine gk_ft ?_ | refine gk_u ?_ | refine gk_u' ?_); first | (intro _ e; (first | rw [qqY] at e | rw [qqZ] at e); subst e) | (intro _ _ e e'; (first | rw [qqY] at e | rw [qqZ] at e); subst e; subst e'))))
        refine qqF ?_
        refine hK1 _ _ _ _ _ (LeB [0, 1, 4] (by refine ⟨?_, ?_, ?_⟩ <;> simp only [leFr, leFb, leHp, V.ren, V.renL, V.bd, V.bdL, allL, lt, Go.Ab.get, hget, List.map_cons, List.map_nil, List.length_cons, List.length_nil, List.length_append, List.getElem?_cons_zero, List.getElem?_cons_succ, List.getElem?_nil, Option.join_some, Option.join_none, List.getD_cons_zero, List.getD_cons_succ, List.getD_nil, Nat.reduceAdd, Nat.reduceLT, Nat.reduceEqDiff, Nat.zero_add, reduceIte, if_true, if_false, and_true, true_and, renL_vcells, allL_vcells, renL_pv, leBlk_some, eq_self, true_or, or_true, reduceCtorEq, false_or, wrap01, List.map_cons, List.map_nil, renL_tc, renL_tc1, allL_tc, allL_app, bdL_tc, allL, Ty.tc])) (rows rest [t] rfl)
    refine awp_loop_k _ (LeB [0, 1] (by refine ⟨?_, ?_, ?_⟩ <;> simp only [leFr, leFb, leHp, V.ren, V.renL, V.bd, V.bdL, allL, lt, Go.Ab.get, hget, List.map_cons, List.map_nil, List.length_cons, List.length_nil, List.length_append, List.getElem?_cons_zero, List.getElem?_cons_succ, List.getElem?_nil, Option.join_some, Option.join_none, List.getD_cons_zero, List.getD_cons_succ, List.getD_nil, Nat.reduceAdd, Nat.reduceLT, Nat.reduceEqDiff, Nat.zero_add, reduceIte, if_true, if_false, and_true, true_and, renL_vcells, allL_vcells, renL_pv, leBlk_some, eq_self, true_or, or_true, reduceCtorEq, false_or, allL])) first
theorem ra_ok (ps : List Int) (xs : List Ty) : ∀ t : Ty, PCall Try.prog 86 [t.enc, .list 1 (encI ps), .list 3 (encL xs)] (raT ps xs t).enc
  | .mk k id ss => ra_loop ps xs k id ss fun t ht => ra_ok ps xs t
termination_by t => SizeOf.sizeOf t
decreasing_by
  have := List.sizeOf_lt_of_mem ht
  simp only [Ty.mk.sizeOf_spec]; omega
end Go.Proofs.Ytbdoblgofddhdaa
/- Traits: the reference's matcher. -/
set_option maxRecDepth 10000
set_option linter.unusedSimpArgs false
set_option linter.unusedVariables false
namespace Go.Proofs.Ytbdoblgofddhdaa
open Go Go.Ab
theorem kdT (k id : Int) (a : List Ty) : (Ty.mk k id a).kd = k := rfl
theorem idT (k id : Int) (a : List Ty) : (Ty.mk k id a).id = id := rfl
theorem argsT (k id : Int) (a : List Ty) : (Ty.mk k id a).args = a := rfl
def f1 (L : List (Int × Ty)) : List Int := L.map Prod.fst
def f2 (L : List (Int × Ty)) : List Ty := L.map Prod.snd
theorem f1_len (L : List (Int × Ty)) : (f1 L).length = L.length := by simp [f1]
theorem f2_len (L : List (Int × Ty)) : (f2 L).length = L.length := by simp [f2]
theorem f1_app (L M : List (Int × Ty)) : f1 (L ++ M) = f1 L ++ f1 M := by simp [f1]
theorem f2_app (L M : List (Int × Ty)) : f2 (L ++ M) = f2 L ++ f2 M := by simp [f2]
def ocV : Option (List (Int × Ty)) → PV
  | none => .tup [.list 1 (encI []), .list 3 (encL []), bb false]
  | some L => .tup [.list 1 (encI (f1 L)), .list 3 (encL (f2 L)), bb true]
theorem vcI (xs : List Int) : (encI xs).map PV.vcells = xs.map cI := by
  unfold encI; rw [List.map_map]
  exact List.map_congr_left fun t _ => rfl
theorem clI (xs : List Int) : (∀ x ∈ encI xs, x.cells.length = 1) = True := by
  refine eq_true fun x hx => ?_
  unfold encI at hx
  obtain ⟨t, _, rfl⟩ := List.mem_map.1 hx
  rfl
theorem vcP (xs : List Ty) : (encL xs).map PV.vcells = xs.map Ty.tc := by
  rw [encL_map, List.map_map]
  exact List.map_congr_left fun t _ => by cases t; rfl
theorem clP (xs : List Ty) : (∀ x ∈ encL xs, x.cells.length = 3) = True := by
  refine eq_true fun x hx => ?_
  rw [encL_map] at hx
  obtain ⟨t, _, rfl⟩ := List.mem_map.1 hx
  cases t; rfl
theorem row_iT {h : HF} {B : List Nat} {b n : Nat} {fl ro : Bool} {ty : Nat} {xs : List Int} {tg : Option (Nat × Nat × Nat)} (hb : b ∈ B) (hk : h b = some ⟨ro, ty, 1, xs.map cI, tg⟩) (hn : n = xs.length) : Vw h B (.row b n fl) (.list 1 (encI xs)) := by
  subst hn; exact row_ii hb hk
theorem ndsL_mid : ∀ (pre rest : List Ty) (q : Ty), ndsL (pre ++ q :: rest) = ndsL pre + nds q + ndsL rest
  | [], rest, q => by simp [ndsL]
  | p :: pre, rest, q => by simp only [List.cons_append, ndsL, ndsL_mid pre rest q]; omega
theorem nds_mem : ∀ {qs : List Ty} {q : Ty}, q ∈ qs → nds q ≤ ndsL qs
  | q' :: qs, q, h => by
    simp only [ndsL]
    rcases List.mem_cons.1 h with rfl | h
    · omega
    · have := nds_mem h; omega
theorem ndsL_end : ∀ (pre : List Ty) (q : Ty), ndsL (pre ++ [q]) = ndsL pre + nds q
  | [], q => by simp [ndsL]
  | p :: pre, q => by simp only [List.cons_append, ndsL, ndsL_end pre q]; omega
set_option maxHeartbeats 8000000 in
theorem oc_loop (ps : List Int) (k id : Int) (qs : List Ty) (hb : nds (.mk k id qs) ≤ 1099511627776) (hrec : ∀ q ∈ qs, ∀ u : Ty, PCall Try.prog 148 [u.enc, q.enc, .list 1 (encI ps)] (ocV (oc ps q u))) (t : Ty) :
    PCall Try.prog 148 [t.enc, (Ty.mk k id qs).enc, .list 1 (encI ps)] (ocV (oc ps (.mk k id qs) t)) := by
  have hgen : ∀ r0 r1 r2, ocV (oc ps (.mk k id qs) t) = .tup [r0, r1, r2] → PCall Try.prog 148 [t.enc, (Ty.mk k id qs).enc, .list 1 (encI ps)] (.tup [r0, r1, r2]) := by
    intro r0 r1 r2 hr
    refine PCall.intro' (ps := [r0, r1, r2]) fn148 (by simp) fun hok => ?_
    have hts : t.args.length ≤ 1099511627776 := by
      simp only [PV.okL, eq_enc t, PV.ok, encL_len, big] at hok; exact hok.1.2.2.1.1
    have hqs : ndsL qs ≤ 1099511627776 := by simp only [nds] at hb; omega
    clear hok
    have hpx := pidx_ok (.mk k id qs) ps
    simp only [Ty.kd, Ty.id, Ty.enc] at hpx
    unfold oc at hr
    rcases pI_cases ps k id with ⟨hp, he⟩ | ⟨hp, he⟩
    · rw [he] at hpx
      have hge : decide (((parI ps id : Nat) : Int) ≥ 0) = true := decide_eq_true (by omega)
      rw [if_pos hp] at hr
      simp only [ocV, f1, f2, List.map_cons, List.map_nil, PV.tup.injEq, List.cons.injEq, and_true] at hr
      obtain ⟨rfl, rfl, rfl⟩ := hr
      unfold ac148
      simp only [argFr]
      (repeat' (first | ((first | (with_reducible refine qqV fun C hC => ?_) | (with_reducible refine qqW fun C hC => ?_) | ((with_reducible intro C hC); (with_reducible refine qqX ?_))); (first | (simp only [go_sem, cells_enc, Ty.tc, kdT, idT, argsT, hge]; (first | ((with_reducible apply ACall.pure0 [] (hpx)); (focus (exact vwA)))))); (simp only [go_sem, cells_enc, Ty.tc, kdT, idT, argsT, hge]); ((with_reducible first | refine finA hC ?_ | refine finD hC ?_); clear hC C)) | ((with_reducible first | refine qqT fun C hC => ?_ | refine qqU fun C hC => ?_ | intro C hC); simp only [go_sem, cells_enc, Ty.tc, kdT, idT, argsT, hge]; ((with_reducible first | refine finA hC ?_ | refine finD hC ?_); clear hC C)) | (with_reducible first | refine qqA fun K hK => ?_ | refine qqB fun K hK => ?_ | refine qqC fun K hK => ?_ | (refine qqD ?_; refine hK _ _ ?_; try clear hK K) | (refine qqE ?_; refine hK _ _ _ ?_ ?_; (focus kernel_rfl); try clear hK K) | (refine qqF ?_; refine hK _ _ ?_; try clear hK K) | refine qqG ?_ | refine qqH ?_ | refine qqI ?_ | refine qqJ ?_ | refine qqK ?_ | (refine qqL ?_; try clear hK K) | (refine qqM ?_; try clear hK K) | refine qqN ?_ | refine qqO ?_ | (refine qqP ?_ ?_; focus decide)) | ((with_reducible first | apply qqQ | apply qqR | apply qqS); focus (simp only [go_sem, cells_enc, Ty.tc, kdT, idT, argsT, hge]; exact rfl)) | (with_reducible first | refine gk_tt ?_ | refine gk_ff ?_ | refine ck_t ?_ | refine ck_f ?_) | ((with_reducible first | refine gk_tf ?_ | refine gk_ft ?_ | refine gk_u ?_ | refine gk_u' ?_); first | (intro _ e; (first | rw [qqY] at e | rw [qqZ] at e); subst e) | (intro _ _ e e'; (first | rw [qqY] at e | rw [qqZ] at e); subst e; subst e'))))
      refine retP_ret (List.range 40) rfl ?_
      refine .cons _ _ _ _ (row_iT (xs := [((parI ps id : Nat) : Int)]) (by decide) rfl rfl) (.cons _ _ _ _ (row_tc (xs := [t]) (by decide) rfl rfl) (.cons _ _ _ _ (.pv _) .nil))
    · rw [he] at hpx
      rw [if_neg (by simp [hp])] at hr
      have no : (if (if !(t.kd == k) then true else !(t.id == id)) then true else !((t.args.length : Int) == qs.length)) = true → r0 = .list 1 (encI []) ∧ r1 = .list 3 (encL []) ∧ r2 = bb false := fun hc => by
        rw [if_pos hc] at hr
        simp only [ocV, PV.tup.injEq, List.cons.injEq, and_true] at hr
        exact ⟨hr.1.symm, hr.2.1.symm, hr.2.2.symm⟩
      unfold ac148
      simp only [argFr]
      cases h1 : (t.kd == k) with
      | false =>
        obtain ⟨rfl, rfl, rfl⟩ := no (by simp [h1])
        (repeat' (first | ((first | (with_reducible refine qqV fun C hC => ?_) | (with_reducible refine qqW fun C hC => ?_) | ((with_reducible intro C hC); (with_reducible refine qqX ?_))); (first | (simp only [go_sem, cells_enc, Ty.tc, kdT, idT, argsT, bne, h1]; (first | ((with_reducible apply ACall.pure0 [] (hpx)); (focus (exact vwA)))))); (simp only [go_sem, cells_enc, Ty.tc, kdT, idT, argsT, bne, h1]); ((with_reducible first | refine finA hC ?_ | refine finD hC ?_); clear hC C)) | ((with_reducible first | refine qqT fun C hC => ?_ | refine qqU fun C hC => ?_ | intro C hC); simp only [go_sem, cells_enc, Ty.tc, kdT, idT, argsT, bne, h1]; ((with_reducible first | refine finA hC ?_ | refine finD hC ?_); clear hC C)) | (with_reducible first | refine qqA fun K hK => ?_ | refine qqB fun K hK => ?_ | refine qqC fun K hK => ?_ | (refine qqD ?_; refine hK _ _ ?_; try clear hK K) | (refine qqE ?_; refine hK _ _ _ ?_ ?_; (focus kernel_rfl); try clear hK K) | (refine qqF ?_; refine hK _ _ ?_; try clear hK K) | refine qqG ?_ | refine qqH ?_ | refine qqI ?_ | refine qqJ ?_ | refine qqK ?_ | (refine qqL ?_; try clear hK K) | (refine qqM ?_; try clear hK K) | refine qqN ?_ | refine qqO ?_ | (refine qqP ?_ ?_; focus decide)) | ((with_reducible first | apply qqQ | apply qqR | apply qqS); focus (simp only [go_sem, cells_enc, Ty.tc, kdT, idT, argsT, bne, h1]; exact rfl)) | (with_reducible first | refine gk_tt ?_ | refine gk_ff ?_ | refine ck_t ?_ | refine ck_f ?_) | ((with_reducible first | refine gk_tf ?_ | refine gk_ft ?_ | refine gk_u ?_ | refine gk_u' ?_); first | (intro _ e; (first | rw [qqY] at e | rw [qqZ] at e); subst e) | (intro _ _ e e'; (first | rw [qqY] at e | rw [qqZ] at e); subst e; subst e'))))
        (refine retP_ret (List.range 40) rfl ?_; (try simp only [encL, encI, List.map_nil, if_true, if_false, Bool.false_eq_true, Bool.not_true, Bool.not_false]); exact vwA)
      | true =>
        cases h2 : (t.id == id) with
        | false =>
          obtain ⟨rfl, rfl, rfl⟩ := no (by simp [h2])
          (repeat' (first | ((first | (with_reducible refine qqV fun C hC => ?_) | (with_reducible refine qqW fun C hC => ?_) | ((with_reducible intro C hC); (with_reducible refine qqX ?_))); (first | (simp only [go_sem, cells_enc, Ty.tc, kdT, idT, argsT, bne, h1, h2]; (first | ((with_reducible apply ACall.pure0 [] (hpx)); (focus (exact vwA)))))); (simp only [go_sem, cells_enc, Ty.tc, kdT, idT, argsT, bne, h1, h2]); ((with_reducible first | refine finA hC ?_ | refine finD hC ?_); clear hC C)) | ((with_reducible first | refine qqT fun C hC => ?_ | refine qqU fun C hC => ?_ | intro C hC); simp only [go_sem, cells_enc, Ty.tc, kdT, idT, argsT, bne, h1, h2]; ((with_reducible first | refine finA hC ?_ | refine finD hC ?_); clear hC C)) | (with_reducible first | refine qqA fun K hK => ?_ | refine qqB fun K hK => ?_ | refine qqC fun K hK => ?_ | (refine qqD ?_; refine hK _ _ ?_; try clear hK K) | (refine qqE ?_; refine hK _ _ _ ?_ ?_; (focus kernel_rfl); try clear hK K) | (refine qqF ?_; refine hK _ _ ?_; try clear hK K) | refine qqG ?_ | refine qqH ?_ | refine qqI ?_ | refine qqJ ?_ | refine qqK ?_ | (refine qqL ?_; try clear hK K) | (refine qqM ?_; try clear hK K) | refine qqN ?_ | refine qqO ?_ | (refine qqP ?_ ?_; focus decide)) | ((with_reducible first | apply qqQ | apply qqR | apply qqS); focus (simp only [go_sem, cells_enc, Ty.tc, kdT, idT, argsT, bne, h1, h2]; exact rfl)) | (with_reducible first | refine gk_tt ?_ | refine gk_ff ?_ | refine ck_t ?_ | refine ck_f ?_) | ((with_reducible first | refine gk_tf ?_ | refine gk_ft ?_ | refine gk_u ?_ | refine gk_u' ?_); first | (intro _ e; (first | rw [qqY] at e | rw [qqZ] at e); subst e) | (intro _ _ e e'; (first | rw [qqY] at e | rw [qqZ] at e); subst e; subst e'))))
          (refine retP_ret (List.range 40) rfl ?_; (try simp only [encL, encI, List.map_nil, if_true, if_false, Bool.false_eq_true, Bool.not_true, Bool.not_false]); exact vwA)
        | true =>
          cases h3 : ((t.args.length : Int) == (qs.length : Int)) with
          | false =>
            obtain ⟨rfl, rfl, rfl⟩ := no (by simp [h1, h2, h3])
            (repeat' (first | ((first | (with_reducible refine qqV fun C hC => ?_) | (with_reducible refine qqW fun C hC => ?_) | ((with_reducible intro C hC); (with_reducible refine qqX ?_))); (first | (simp only [go_sem, cells_enc, Ty.tc, kdT, idT, argsT, bne, h1, h2, h3, encL_len]; (first | ((with_reducible apply ACall.pure0 [] (hpx)); (focus (exact vwA)))))); (simp only [go_sem, cells_enc, Ty.tc, kdT, idT, argsT, bne, h1, h2, h3, encL_len]); ((with_reducible first | refine finA hC ?_ | refine finD hC ?_); clear hC C)) | ((with_reducible first | refine qqT fun C hC => ?_ | refine qqU fun C hC => ?_ | intro C hC); simp only [go_sem, cells_enc, Ty.tc, kdT, idT, argsT, bne, h1, h2, h3, encL_len]; ((with_reducible first | refine finA hC ?_ | refine finD hC ?_); clear hC C)) | (with_reducible first | refine qqA fun K hK => ?_ | refine qqB fun K hK => ?_ | refine qqC fun K hK => ?_ | (refine qqD ?_; refine hK _ _ ?_; try clear hK K) | (refine qqE ?_; refine hK _ _ _ ?_ ?_; (focus kernel_rfl); try clear hK K) | (refine qqF ?_; refine hK _ _ ?_; try clear hK K) | refine qqG ?_ | refine qqH ?_ | refine qqI ?_ | refine qqJ ?_ | refine qqK ?_ | (refine qqL ?_; try clear hK K) | (refine qqM ?_; try clear hK K) | refine qqN ?_ | refine qqO ?_ | (refine qqP ?_ ?_; focus decide)) | ((with_reducible first | apply qqQ | apply qqR | apply qqS); focus (simp only [go_sem, cells_enc, Ty.tc, kdT, idT, argsT, bne, h1, h2, h3, encL_len]; exact rfl)) | (with_reducible first | refine gk_tt ?_ | refine gk_ff ?_ | refine ck_t ?_ | refine ck_f ?_) | ((with_reducible first | refine gk_tf ?_ | refine gk_ft ?_ | refine gk_u ?_ | refine gk_u' ?_); first | (intro _ e; (first | rw [qqY] at e | rw [qqZ] at e); subst e) | (intro _ _ e e'; (first | rw [qqY] at e | rw [qqZ] at e); subst e; subst e'))))
            (refine retP_ret (List.range 40) rfl ?_; (try simp only [encL, encI, List.map_nil, if_true, if_false, Bool.false_eq_true, Bool.not_true, Bool.not_false]); exact vwA)
          | true =>
            rw [if_neg (by simp [h1, h2, h3])] at hr
            clear no
            (repeat' (first | ((first | (with_reducible refine qqV fun C hC => ?_) | (with_reducible refine qqW fun C hC => ?_) | ((with_reducible intro C hC); (with_reducible refine qqX ?_))); (first | (simp only [go_sem, cells_enc, Ty.tc, kdT, idT, argsT, bne, h1, h2, h3, encL_len]; (first | ((with_reducible apply ACall.pure0 [] (hpx)); (focus (exact vwA)))))); (simp only [go_sem, cells_enc, Ty.tc, kdT, idT, argsT, bne, h1, h2, h3, encL_len]); ((with_reducible first | refine finA hC ?_ | refine finD hC ?_); clear hC C)) | ((with_reducible first | refine qqT fun C hC => ?_ | refine qqU fun C hC => ?_ | intro C hC); simp only [go_sem, cells_enc, Ty.tc, kdT, idT, argsT, bne, h1, h2, h3, encL_len]; ((with_reducible first | refine finA hC ?_ | refine finD hC ?_); clear hC C)) | (with_reducible first | refine qqA fun K hK => ?_ | refine qqB fun K hK => ?_ | refine qqC fun K hK => ?_ | (refine qqD ?_; refine hK _ _ ?_; try clear hK K) | (refine qqE ?_; refine hK _ _ _ ?_ ?_; (focus kernel_rfl); try clear hK K) | (refine qqF ?_; refine hK _ _ ?_; try clear hK K) | refine qqG ?_ | refine qqH ?_ | refine qqI ?_ | refine qqJ ?_ | refine qqK ?_ | (refine qqL ?_; try clear hK K) | (refine qqM ?_; try clear hK K) | refine qqN ?_ | refine qqO ?_ | (refine qqP ?_ ?_; focus decide)) | ((with_reducible first | apply qqQ | apply qqR | apply qqS); focus (simp only [go_sem, cells_enc, Ty.tc, kdT, idT, argsT, bne, h1, h2, h3, encL_len]; exact rfl)) | (with_reducible first | refine gk_tt ?_ | refine gk_ff ?_ | refine ck_t ?_ | refine ck_f ?_) | ((with_reducible first | refine gk_tf ?_ | refine gk_ft ?_ | refine gk_u ?_ | refine gk_u' ?_); first | (intro _ e; (first | rw [qqY] at e | rw [qqZ] at e); subst e) | (intro _ _ e e'; (first | rw [qqY] at e | rw [qqZ] at e); subst e; subst e'))))
            have hll3 : t.args.length = qs.length := by have : (t.args.length : Int) = qs.length := by simpa using h3
                                                        omega
            have more : ∀ (rt rq pq pt : List Ty) (L : List (Int × Ty)), pq ++ rq = qs → pt ++ rt = t.args → pq.length = pt.length → rt.length = rq.length → L.length ≤ ndsL pq → ocL ps qs t.args = (match ocL ps rq rt with | none => none | some b => some (L ++ b)) → loopN (awp Try.prog ac148_l0) (catch_ 0 (thn K (retP [RV.tmp 6, RV.tmp 7, RV.tmp 8] [r0, r1, r2]))) (rt.length + 1)
               [(49, .pv (ii pt.length)), (48, .pv (ii t.args.length)), (11, .row 3 L.length false), (10, .row 2 L.length false), (4, .ptr 1 0 0), (3, .ptr 0 0 0), (2, .pv (.list 1 (encI ps)))]
               [some ⟨false, 26, 3, [[.pv (ii t.kd), .pv (ii t.id), .pv (.list 3 (encL t.args))]], none⟩, some ⟨false, 26, 3, [[.pv (ii k), .pv (ii id), .pv (.list 3 (encL qs))]], none⟩, some ⟨false, 3, 1, (f1 L).map cI, none⟩, some ⟨false, 26, 3, (f2 L).map Ty.tc, none⟩] := by
              intro rt
              induction rt with
              | nil =>
                intro rq pq pt L hpq hpt hll hrl hL he
                have hpt : pt = t.args := by simpa using hpt
                have hq0 : rq = [] := List.eq_nil_of_length_eq_zero (by simpa using hrl.symm)
                subst hq0
                have hlt : decide ((pt.length : Int) < (t.args.length : Int)) = false := by rw [hpt]; exact lt_end _
                rw [he] at hr
                simp only [ocL, List.append_nil, ocV, PV.tup.injEq, List.cons.injEq, and_true] at hr
                obtain ⟨rfl, rfl, rfl⟩ := hr
                refine loopN_k fun K1 hK1 => ?_
                unfold ac148_l0
                (repeat' (first | ((with_reducible first | refine qqT fun C hC => ?_ | refine qqU fun C hC => ?_ | intro C hC); simp only [go_sem, hlt]; ((with_reducible first | refine finA hC ?_ | refine finD hC ?_); clear hC C)) | (with_reducible first | refine qqA fun K hK => ?_ | refine qqB fun K hK => ?_ | refine qqC fun K hK => ?_ | (refine qqD ?_; refine hK _ _ ?_; try clear hK K) | (refine qqE ?_; refine hK _ _ _ ?_ ?_; (focus kernel_rfl); try clear hK K) | (refine qqF ?_; refine hK _ _ ?_; try clear hK K) | refine qqG ?_ | refine qqH ?_ | refine qqI ?_ | refine qqJ ?_ | refine qqK ?_ | (refine qqL ?_; try clear hK K) | (refine qqM ?_; try clear hK K) | refine qqN ?_ | refine qqO ?_ | (refine qqP ?_ ?_; focus decide)) | ((with_reducible first | apply qqQ | apply qqR | apply qqS); focus (simp only [go_sem, hlt]; exact rfl)) | (with_reducible first | refine gk_tt ?_ | refine gk_ff ?_ | refine ck_t ?_ | refine ck_f ?_) | ((with_reducible first | refine gk_tf ?_ | refine gk_ft ?_ | refine gk_u ?_ | refine gk_u' ?_); first | (intro _ e; (first | rw [qqY] at e | rw [qqZ] at e); subst e) | (intro _ _ e e'; (first | rw [qqY] at e | rw [qqZ] at e); subst e; subst e'))))
                refine retP_ret (List.range 40) rfl ?_
                exact .cons _ _ _ _ (row_iT (xs := f1 L) (by decide) rfl (f1_len L).symm) (.cons _ _ _ _ (row_tc (xs := f2 L) (by decide) rfl (f2_len L).symm) (.cons _ _ _ _ (.pv _) .nil))
              | cons u rt ih =>
                intro rq pq pt L hpq hpt hll hrl hL he
                cases rq with
                | nil => simp at hrl
                | cons q rq =>
                have hlt : decide ((pt.length : Int) < (t.args.length : Int)) = true := by rw [← hpt]; exact lt_app _ _ _
                have hat : (encL t.args)[pt.length]? = some u.enc := by rw [← hpt]; exact encL_at _ _ _
                have hat2 : (encL qs)[pt.length]? = some q.enc := by rw [← hll, ← hpq]; exact encL_at _ _ _
                have hw := wrapS (n := pt.length) (by have := congrArg List.length hpt; simp at this; omega)
                have hc := hrec q (by rw [← hpq]; simp) u
                have hn : ndsL pq + nds q ≤ 1099511627776 := by have := ndsL_mid pq rq q; rw [hpq] at this; omega
                refine loopN_k fun K1 hK1 => ?_
                unfold ac148_l0
                cases ho : oc ps q u with
                | none =>
                  rw [ho, eq_enc u, eq_enc q] at hc
                  simp only [ocV] at hc
                  rw [he] at hr
                  simp only [ocL, ho, ocV, PV.tup.injEq, List.cons.injEq, and_true] at hr
                  obtain ⟨rfl, rfl, rfl⟩ := hr
                  (repeat' (first | ((first | (with_reducible refine qqV fun C hC => ?_) | (with_reducible refine qqW fun C hC => ?_) | ((with_reducible intro C hC); (with_reducible refine qqX ?_))); (first | (simp only [go_sem, hlt, hat, hat2, cells_enc, pcells_enc, Ty.tc]; (first | ((with_reducible apply ACall.pure0 [] (hc)); (focus (exact vwA)))))); (simp only [go_sem, hlt, hat, hat2, cells_enc, pcells_enc, Ty.tc]); ((with_reducible first | refine finA hC ?_ | refine finD hC ?_); clear hC C)) | ((with_reducible first | refine qqT fun C hC => ?_ | refine qqU fun C hC => ?_ | intro C hC); simp only [go_sem, hlt, hat, hat2, cells_enc, pcells_enc, Ty.tc]; ((with_reducible first | refine finA hC ?_ | refine finD hC ?_); clear hC C)) | (with_reducible first | refine qqA fun K hK => ?_ | refine qqB fun K hK => ?_ | refine qqC fun K hK => ?_ | (refine qqD ?_; refine hK _ _ ?_; try clear hK K) | (refine qqE ?_; refine hK _ _ _ ?_ ?_; (focus kernel_rfl); try clear hK K) | (refine qqF ?_; refine hK _ _ ?_; try clear hK K) | refine qqG ?_ | refine qqH ?_ | refine qqI ?_ | refine qqJ ?_ | refine qqK ?_ | (refine qqL ?_; try clear hK K) | (refine qqM ?_; try clear hK K) | refine qqN ?_ | refine qqO ?_ | (refine qqP ?_ ?_; focus decide)) | ((with_reducible first | apply qqQ | apply qqR | apply qqS); focus (simp only [go_sem, hlt, hat, hat2, cells_enc, pcells_enc, Ty.tc]; exact rfl)) | (with_reducible first | refine gk_tt ?_ | refine gk_ff ?_ | refine ck_t ?_ | refine ck_f ?_) | ((with_reducible first | refine gk_tf ?_ | refine gk_ft ?_ | refine gk_u ?_ | refine gk_u' ?_); first | (intro _ e; (first | rw [qqY] at e | rw [qqZ] at e); subst e) | (intro _ _ e e'; (first | rw [qqY] at e | rw [qqZ] at e); subst e; subst e'))))
                  (refine retP_ret (List.range 40) rfl ?_; (try simp only [encL, encI, List.map_nil, if_true, if_false, Bool.false_eq_true, Bool.not_true, Bool.not_false]); exact vwA)
                | some a =>
                  rw [ho, eq_enc u, eq_enc q] at hc
                  simp only [ocV] at hc
                  have ha := oc_len ps q u a ho
                  have hbg : L.length + a.length ≤ big := by unfold big; omega
                  have v1 := vcI (f1 a)
                  have v2 := vcP (f2 a)
                  have c1 := clI (f1 a)
                  have c2 := clP (f2 a)
                  have he : ocL ps qs t.args = (match ocL ps rq rt with | none => none | some b => some ((L ++ a) ++ b)) := by
                    rw [he]
                    simp only [ocL, ho]
                    cases ocL ps rq rt <;> simp
                  (repeat' (first | ((first | (with_reducible refine qqV fun C hC => ?_) | (with_reducible refine qqW fun C hC => ?_) | ((with_reducible intro C hC); (with_reducible refine qqX ?_))); (first | (simp only [go_sem, hlt, hat, hat2, cells_enc, pcells_enc, Ty.tc, v1, v2, c1, c2, List.length_map, f1_len, f2_len, hbg]; (first | ((with_reducible apply ACall.pure0 [] (hc)); (focus (exact vwA)))))); (simp only [go_sem, hlt, hat, hat2, cells_enc, pcells_enc, Ty.tc, v1, v2, c1, c2, List.length_map, f1_len, f2_len, hbg]); ((with_reducible first | refine finA hC ?_ | refine finD hC ?_); clear hC C)) | ((with_reducible first | refine qqT fun C hC => ?_ | refine qqU fun C hC => ?_ | intro C hC); simp only [go_sem, hlt, hat, hat2, cells_enc, pcells_enc, Ty.tc, v1, v2, c1, c2, List.length_map, f1_len, f2_len, hbg]; ((with_reducible first | refine finA hC ?_ | refine finD hC ?_); clear hC C)) | (with_reducible first | refine qqA fun K hK => ?_ | refine qqB fun K hK => ?_ | refine qqC fun K hK => ?_ | (refine qqD ?_; refine hK _ _ ?_; try clear hK K) | (refine qqE ?_; refine hK _ _ _ ?_ ?_; (focus kernel_rfl); try clear hK K) | (refine qqF ?_; refine hK _ _ ?_; try clear hK K) | refine qqG ?_ | refine qqH ?_ | refine qqI ?_ | refine qqJ ?_ | refine qqK ?_ | (refine qqL ?_; try clear hK K) | (refine qqM ?_; try clear hK K) | refine qqN ?_ | refine qqO ?_ | (refine qqP ?_ ?_; focus decide)) | ((with_reducible first | apply qqQ | apply qqR | apply qqS); focus (simp only [go_sem, hlt, hat, hat2, cells_enc, pcells_enc, Ty.tc, v1, v2, c1, c2, List.length_map, f1_len, f2_len, hbg]; exact rfl)) | (with_reducible first | refine gk_tt ?_ | refine gk_ff ?_ | refine ck_t ?_ | refine ck_f ?_) | ((with_reducible first | refine gk_tf ?_ | refine gk_ft ?_ | refine gk_u ?_ | refine gk_u' ?_); first | (intro _ e; (first | rw [qqY] at e | rw [qqZ] at e); subst e) | (intro _ _ e e'; (first | rw [qqY] at e | rw [qqZ] at e); subst e; subst e'))))
                  refine qqF ?_
                  refine hK1 _ _ _ _ _ (LeB [0, 1, 4, 5] (by refine ⟨?_, ?_, ?_⟩ <;> simp only [leFr, leFb, leHp, V.ren, V.renL, V.bd, V.bdL, allL, lt, Go.Ab.get, hget, List.map_cons, List.map_nil, List.length_cons, List.length_nil, List.length_append, List.getElem?_cons_zero, List.getElem?_cons_succ, List.getElem?_nil, Option.join_some, Option.join_none, List.getD_cons_zero, List.getD_cons_succ, List.getD_nil, Nat.reduceAdd, Nat.reduceLT, Nat.reduceEqDiff, Nat.zero_add, reduceIte, if_true, if_false, and_true, true_and, renL_vcells, allL_vcells, renL_pv, leBlk_some, eq_self, true_or, or_true, reduceCtorEq, false_or, hw, List.length_append, f1_app, f2_app, List.map_append, renL_tc, allL_tc, renL_cI, allL_cI, allL_app, allL])) (ih rq (pq ++ [q]) (pt ++ [u]) (L ++ a) (by simp [hpq]) (by simp [hpt]) (by simp [hll]) (by simpa using hrl) (by rw [ndsL_end, List.length_append]; omega) he)
            have none_ : ∀ (rt rq pq pt : List Ty), pq ++ rq = qs → pt ++ rt = t.args → pq.length = pt.length → rt.length = rq.length → ocL ps qs t.args = ocL ps rq rt → loopN (awp Try.prog ac148_l0) (catch_ 0 (thn K (retP [RV.tmp 6, RV.tmp 7, RV.tmp 8] [r0, r1, r2]))) (rt.length + 1)
               [(49, .pv (ii pt.length)), (48, .pv (ii t.args.length)), (11, .pv (.lit (.slice none 0 0))), (10, .pv (.lit (.slice none 0 0))), (4, .ptr 1 0 0), (3, .ptr 0 0 0), (2, .pv (.list 1 (encI ps)))]
               [some ⟨false, 26, 3, [[.pv (ii t.kd), .pv (ii t.id), .pv (.list 3 (encL t.args))]], none⟩, some ⟨false, 26, 3, [[.pv (ii k), .pv (ii id), .pv (.list 3 (encL qs))]], none⟩] := by
              intro rt
              induction rt with
              | nil =>
                intro rq pq pt hpq hpt hll hrl he
                have hpt : pt = t.args := by simpa using hpt
                have hq0 : rq = [] := List.eq_nil_of_length_eq_zero (by simpa using hrl.symm)
                subst hq0
                have hlt : decide ((pt.length : Int) < (t.args.length : Int)) = false := by rw [hpt]; exact lt_end _
                rw [he] at hr
                simp only [ocL, ocV, PV.tup.injEq, List.cons.injEq, and_true] at hr
                obtain ⟨rfl, rfl, rfl⟩ := hr
                refine loopN_k fun K1 hK1 => ?_
                unfold ac148_l0
                (repeat' (first | ((with_reducible first | refine qqT fun C hC => ?_ | refine qqU fun C hC => ?_ | intro C hC); simp only [go_sem, hlt]; ((with_reducible first | refine finA hC ?_ | refine finD hC ?_); clear hC C)) | (with_reducible first | refine qqA fun K hK => ?_ | refine qqB fun K hK => ?_ | refine qqC fun K hK => ?_ | (refine qqD ?_; refine hK _ _ ?_; try clear hK K) | (refine qqE ?_; refine hK _ _ _ ?_ ?_; (focus kernel_rfl); try clear hK K) | (refine qqF ?_; refine hK _ _ ?_; try clear hK K) | refine qqG ?_ | refine qqH ?_ | refine qqI ?_ | refine qqJ ?_ | refine qqK ?_ | (refine qqL ?_; try clear hK K) | (refine qqM ?_; try clear hK K) | refine qqN ?_ | refine qqO ?_ | (refine qqP ?_ ?_; focus decide)) | ((with_reducible first | apply qqQ | apply qqR | apply qqS); focus (simp only [go_sem, hlt]; exact rfl)) | (with_reducible first | refine gk_tt ?_ | refine gk_ff ?_ | refine ck_t ?_ | refine ck_f ?_) | ((with_reducible first | refine gk_tf ?_ | refine gk_ft ?_ | refine gk_u ?_ | refine gk_u' ?_); first | (intro _ e; (first | rw [qqY] at e | rw [qqZ] at e); subst e) | (intro _ _ e e'; (first | rw [qqY] at e | rw [qqZ] at e); subst e; subst e'))))
                (refine retP_ret (List.range 40) rfl ?_; (try simp only [f1, f2, encL, encI, List.map_nil, if_true, if_false, Bool.false_eq_true, Bool.not_true, Bool.not_false]); exact vwA)
              | cons u rt ih =>
                intro rq pq pt hpq hpt hll hrl he
                cases rq with
                | nil => simp at hrl
                | cons q rq =>
                have hlt : decide ((pt.length : Int) < (t.args.length : Int)) = true := by rw [← hpt]; exact lt_app _ _ _
                have hat : (encL t.args)[pt.length]? = some u.enc := by rw [← hpt]; exact encL_at _ _ _
                have hat2 : (encL qs)[pt.length]? = some q.enc := by rw [← hll, ← hpq]; exact encL_at _ _ _
                have hw := wrapS (n := pt.length) (by have := congrArg List.length hpt; simp at this; omega)
                have hc := hrec q (by rw [← hpq]; simp) u
                have hn : ndsL pq + nds q ≤ 1099511627776 := by have := ndsL_mid pq rq q; rw [hpq] at this; omega
                refine loopN_k fun K1 hK1 => ?_
                unfold ac148_l0
                cases ho : oc ps q u with
                | none =>
                  rw [ho, eq_enc u, eq_enc q] at hc
                  simp only [ocV] at hc
                  rw [he] at hr
                  simp only [ocL, ho, ocV, PV.tup.injEq, List.cons.injEq, and_true] at hr
                  obtain ⟨rfl, rfl, rfl⟩ := hr
                  (repeat' (first | ((first | (with_reducible refine qqV fun C hC => ?_) | (with_reducible refine qqW fun C hC => ?_) | ((with_reducible intro C hC); (with_reducible refine qqX ?_))); (first | (simp only [go_sem, hlt, hat, hat2, cells_enc, pcells_enc, Ty.tc]; (first | ((with_reducible apply ACall.pure0 [] (hc)); (focus (exact vwA)))))); (simp only [go_sem, hlt, hat, hat2, cells_enc, pcells_enc, Ty.tc]); ((with_reducible first | refine finA hC ?_ | refine finD hC ?_); clear hC C)) | ((with_reducible first | refine qqT fun C hC => ?_ | refine qqU fun C hC => ?_ | intro C hC); simp only [go_sem, hlt, hat, hat2, cells_enc, pcells_enc, Ty.tc]; ((with_reducible first | refine finA hC ?_ | refine finD hC ?_); clear hC C)) | (with_reducible first | refine qqA fun K hK => ?_ | refine qqB fun K hK => ?_ | refine qqC fun K hK => ?_ | (refine qqD ?_; refine hK _ _ ?_; try clear hK K) | (refine qqE ?_; refine hK _ _ _ ?_ ?_; (focus kernel_rfl); try clear hK K) | (refine qqF ?_; refine hK _ _ ?_; try clear hK K) | refine qqG ?_ | refine qqH ?_ | refine qqI ?_ | refine qqJ ?_ | refine qqK ?_ | (refine qqL ?_; try clear hK K) | (refine qqM ?_; try clear hK K) | refine qqN ?_ | refine qqO ?_ | (refine qqP ?_ ?_; focus decide)) | ((with_reducible first | apply qqQ | apply qqR | apply qqS); focus (simp only [go_sem, hlt, hat, hat2, cells_enc, pcells_enc, Ty.tc]; exact rfl)) | (with_reducible first | refine gk_tt ?_ | refine gk_ff ?_ | refine ck_t ?_ | refine ck_f ?_) | ((with_reducible first | refine gk_tf ?_ | refine gk_ft ?_ | refine gk_u ?_ | refine gk_u' ?_); first | (intro _ e; (first | rw [qqY] at e | rw [qqZ] at e); subst e) | (intro _ _ e e'; (first | rw [qqY] at e | rw [qqZ] at e); subst e; subst e'))))
                  (refine retP_ret (List.range 40) rfl ?_; (try simp only [encL, encI, List.map_nil, if_true, if_false, Bool.false_eq_true, Bool.not_true, Bool.not_false]); exact vwA)
                | some a =>
                  have ha := oc_len ps q u a ho
                  cases a with
                  | nil =>
                    rw [ho, eq_enc u, eq_enc q] at hc
                    have hc : PCall Try.prog 148 [.agg [ii u.kd, ii u.id, .list 3 (encL u.args)], .agg [ii q.kd, ii q.id, .list 3 (encL q.args)], .list 1 (encI ps)] (.tup [.list 1 [], .list 3 [], bb true]) := hc
                    have he : ocL ps qs t.args = ocL ps rq rt := by
                      rw [he]
                      simp only [ocL, ho]
                      cases ocL ps rq rt <;> simp
                    (repeat' (first | ((first | (with_reducible refine qqV fun C hC => ?_) | (with_reducible refine qqW fun C hC => ?_) | ((with_reducible intro C hC); (with_reducible refine qqX ?_))); (first | (simp only [go_sem, hlt, hat, hat2, cells_enc, pcells_enc, Ty.tc, List.not_mem_nil, false_imp_iff, implies_true, forall_const]; (first | ((with_reducible apply ACall.pure0 [] (hc)); (focus (exact vwA)))))); (simp only [go_sem, hlt, hat, hat2, cells_enc, pcells_enc, Ty.tc, List.not_mem_nil, false_imp_iff, implies_true, forall_const]); ((with_reducible first | refine finA hC ?_ | refine finD hC ?_); clear hC C)) | ((with_reducible first | refine qqT fun C hC => ?_ | refine qqU fun C hC => ?_ | intro C hC); simp only [go_sem, hlt, hat, hat2, cells_enc, pcells_enc, Ty.tc, List.not_mem_nil, false_imp_iff, implies_true, forall_const]; ((with_reducible first | refine finA hC ?_ | refine finD hC ?_); clear hC C)) | (with_reducible first | refine qqA fun K hK => ?_ | refine qqB fun K hK => ?_ | refine qqC fun K hK => ?_ | (refine qqD ?_; refine hK _ _ ?_; try clear hK K) | (refine qqE ?_; refine hK _ _ _ ?_ ?_; (focus kernel_rfl); try clear hK K) | (refine qqF ?_; refine hK _ _ ?_; try clear hK K) | refine qqG ?_ | refine qqH ?_ | refine qqI ?_ | refine qqJ ?_ | refine qqK ?_ | (refine qqL ?_; try clear hK K) | (refine qqM ?_; try clear hK K) | refine qqN ?_ | refine qqO ?_ | (refine qqP ?_ ?_; focus decide)) | ((with_reducible first | apply qqQ | apply qqR | apply qqS); focus (simp only [go_sem, hlt, hat, hat2, cells_enc, pcells_enc, Ty.tc, List.not_mem_nil, false_imp_iff, implies_true, forall_const]; exact rfl)) | (with_reducible first | refine gk_tt ?_ | refine gk_ff ?_ | refine ck_t ?_ | refine ck_f ?_) | ((with_reducible first | refine gk_tf ?_ | refine gk_ft ?_ | refine gk_u ?_ | refine gk_u' ?_); first | (intro _ e; (first | rw [qqY] at e | rw [qqZ] at e); subst e) | (intro _ _ e e'; (first | rw [qqY] at e | rw [qqZ] at e); subst e; subst e'))))
                    refine qqF ?_
                    refine hK1 _ _ _ _ _ (LeB [0, 1] (by refine ⟨?_, ?_, ?_⟩ <;> simp only [leFr, leFb, leHp, V.ren, V.renL, V.bd, V.bdL, allL, lt, Go.Ab.get, hget, List.map_cons, List.map_nil, List.length_cons, List.length_nil, List.length_append, List.getElem?_cons_zero, List.getElem?_cons_succ, List.getElem?_nil, Option.join_some, Option.join_none, List.getD_cons_zero, List.getD_cons_succ, List.getD_nil, Nat.reduceAdd, Nat.reduceLT, Nat.reduceEqDiff, Nat.zero_add, reduceIte, if_true, if_false, and_true, true_and, renL_vcells, allL_vcells, renL_pv, leBlk_some, eq_self, true_or, or_true, reduceCtorEq, false_or, hw, List.length_append, allL])) (ih rq (pq ++ [q]) (pt ++ [u]) (by simp [hpq]) (by simp [hpt]) (by simp [hll]) (by simpa using hrl) he)
                  | cons y a =>
                    rw [ho, eq_enc u, eq_enc q] at hc
                    have hc : PCall Try.prog 148 [.agg [ii u.kd, ii u.id, .list 3 (encL u.args)], .agg [ii q.kd, ii q.id, .list 3 (encL q.args)], .list 1 (encI ps)] (.tup [.list 1 (ii y.1 :: encI (f1 a)), .list 3 (y.2.enc :: encL (f2 a)), bb true]) := hc
                    have hbg : a.length + 1 ≤ big := by simp only [List.length_cons] at ha; unfold big; omega
                    have v1 := vcI (f1 a)
                    have v2 := vcP (f2 a)
                    have c1 : (∀ x ∈ (ii y.1 :: encI (f1 a)), x.cells.length = 1) = True := clI (y.1 :: f1 a)
                    have c2 : (∀ x ∈ (y.2.enc :: encL (f2 a)), x.cells.length = 3) = True := clP (y.2 :: f2 a)
                    have he : ocL ps qs t.args = (match ocL ps rq rt with | none => none | some b => some ((y :: a) ++ b)) := by
                      rw [he]
                      simp only [ocL, ho]
                      cases ocL ps rq rt <;> rfl
                    (repeat' (first | ((first | (with_reducible refine qqV fun C hC => ?_) | (with_reducible refine qqW fun C hC => ?_) | ((with_reducible intro C hC); (with_reducible refine qqX ?_))); (first | (simp only [go_sem, hlt, hat, hat2, cells_enc, pcells_enc, Ty.tc, v1, v2, c1, c2, List.length_map, List.length_cons, f1_len, f2_len, hbg, reduceCtorEq, ne_eq, not_false_eq_true]; (first | ((with_reducible apply ACall.pure0 [] (hc)); (focus (exact vwA)))))); (simp only [go_sem, hlt, hat, hat2, cells_enc, pcells_enc, Ty.tc, v1, v2, c1, c2, List.length_map, List.length_cons, f1_len, f2_len, hbg, reduceCtorEq, ne_eq, not_false_eq_true]); ((with_reducible first | refine finA hC ?_ | refine finD hC ?_); clear hC C)) | ((with_reducible first | refine qqT fun C hC => ?_ | refine qqU fun C hC => ?_ | intro C hC); simp only [go_sem, hlt, hat, hat2, cells_enc, pcells_enc, Ty.tc, v1, v2, c1, c2, List.length_map, List.length_cons, f1_len, f2_len, hbg, reduceCtorEq, ne_eq, not_false_eq_true]; ((with_reducible first | refine finA hC ?_ | refine finD hC ?_); clear hC C)) | (with_reducible first | refine qqA fun K hK => ?_ | refine qqB fun K hK => ?_ | refine qqC fun K hK => ?_ | (refine qqD ?_; refine hK _ _ ?_; try clear hK K) | (refine qqE ?_; refine hK _ _ _ ?_ ?_; (focus kernel_rfl); try clear hK K) | (refine qqF ?_; refine hK _ _ ?_; try clear hK K) | refine qqG ?_ | refine qqH ?_ | refine qqI ?_ | refine qqJ ?_ | refine qqK ?_ | (refine qqL ?_; try clear hK K) | (refine qqM ?_; try clear hK K) | refine qqN ?_ | refine qqO ?_ | (refine qqP ?_ ?_; focus decide)) | ((with_reducible first | apply qqQ | apply qqR | apply qqS); focus (simp only [go_sem, hlt, hat, hat2, cells_enc, pcells_enc, Ty.tc, v1, v2, c1, c2, List.length_map, List.length_cons, f1_len, f2_len, hbg, reduceCtorEq, ne_eq, not_false_eq_true]; exact rfl)) | (with_reducible first | refine gk_tt ?_ | refine gk_ff ?_ | refine ck_t ?_ | refine ck_f ?_) | ((with_reducible first | refine gk_tf ?_ | refine gk_ft ?_ | refine gk_u ?_ | refine gk_u' ?_); first | (intro _ e; (first | rw [qqY] at e | rw [qqZ] at e); subst e) | (intro _ _ e e'; (first | rw [qqY] at e | rw [qqZ] at e); subst e; subst e'))))
                    refine qqF ?_
                    refine hK1 _ _ _ _ _ (LeB [0, 1, 2, 3] (by refine ⟨?_, ?_, ?_⟩ <;> simp only [leFr, leFb, leHp, V.ren, V.renL, V.bd, V.bdL, allL, lt, Go.Ab.get, hget, List.map_cons, List.map_nil, List.length_cons, List.length_nil, List.length_append, List.getElem?_cons_zero, List.getElem?_cons_succ, List.getElem?_nil, Option.join_some, Option.join_none, List.getD_cons_zero, List.getD_cons_succ, List.getD_nil, Nat.reduceAdd, Nat.reduceLT, Nat.reduceEqDiff, Nat.zero_add, reduceIte, if_true, if_false, and_true, true_and, renL_vcells, allL_vcells, renL_pv, leBlk_some, eq_self, true_or, or_true, reduceCtorEq, false_or, hw, List.length_append, f1, f2, List.map_cons, List.length_cons, cI, renL_tc, allL_tc, renL_cI, allL_cI, allL, Ty.tc])) (more rt rq (pq ++ [q]) (pt ++ [u]) (y :: a) (by simp [hpq]) (by simp [hpt]) (by simp [hll]) (by simpa using hrl) (by rw [ndsL_end]; omega) he)
            refine awp_loop_k _ (LeB [0, 1] (by refine ⟨?_, ?_, ?_⟩ <;> simp only [leFr, leFb, leHp, V.ren, V.renL, V.bd, V.bdL, allL, lt, Go.Ab.get, hget, List.map_cons, List.map_nil, List.length_cons, List.length_nil, List.length_append, List.getElem?_cons_zero, List.getElem?_cons_succ, List.getElem?_nil, Option.join_some, Option.join_none, List.getD_cons_zero, List.getD_cons_succ, List.getD_nil, Nat.reduceAdd, Nat.reduceLT, Nat.reduceEqDiff, Nat.zero_add, reduceIte, if_true, if_false, and_true, true_and, renL_vcells, allL_vcells, renL_pv, leBlk_some, eq_self, true_or, or_true, reduceCtorEq, false_or, c0, allL])) (none_ t.args qs [] [] rfl rfl rfl hll3 rfl)
  cases h : oc ps (.mk k id qs) t with
  | none => rw [h] at hgen; exact hgen _ _ _ rfl
  | some L => rw [h] at hgen; exact hgen _ _ _ rfl
theorem oc_okk (ps : List Int) : ∀ p : Ty, nds p ≤ 1099511627776 → ∀ t : Ty, PCall Try.prog 148 [t.enc, p.enc, .list 1 (encI ps)] (ocV (oc ps p t))
  | .mk k id qs, hb, t => oc_loop ps k id qs hb (fun q hq u => oc_okk ps q (by have := nds_mem hq; simp only [nds] at hb; omega) u) t
termination_by p => SizeOf.sizeOf p
decreasing_by
  have := List.sizeOf_lt_of_mem hq
  simp only [Ty.mk.sizeOf_spec]; omega
end Go.Proofs.Ytbdoblgofddhdaa
