/- M4: joined from Y4. -/
import Derived.Test.YtbdoblgofddhdaaFnU
import Derived.Test.YtbdoblgofddhdaaM3
/- Associated types: normalize, by contract. -/
set_option maxRecDepth 10000
set_option linter.unusedSimpArgs false
set_option linter.unusedVariables false
namespace Go.Proofs.Ytbdoblgofddhdaa
open Go Go.Ab
theorem kdT (k id : Int) (a : List Ty) : (Ty.mk k id a).kd = k := rfl
theorem idT (k id : Int) (a : List Ty) : (Ty.mk k id a).id = id := rfl
theorem argsT (k id : Int) (a : List Ty) : (Ty.mk k id a).args = a := rfl
theorem nrmL_end (g : Ty → Bool → Ty × Bool) : ∀ (xs : List Ty) (t : Ty) (b : Bool), nrmL g (xs ++ [t]) b = ((nrmL g xs b).1 ++ [(nrmT g t (nrmL g xs b).2).1], (nrmT g t (nrmL g xs b).2).2)
  | [], t, b => rfl
  | x :: xs, t, b => by simp only [List.cons_append, nrmL, nrmL_end g xs t]
theorem nrmL_len (g : Ty → Bool → Ty × Bool) : ∀ (xs : List Ty) (b : Bool), (nrmL g xs b).1.length = xs.length
  | [], b => rfl
  | x :: xs, b => by simp [nrmL, nrmL_len g xs]
set_option maxHeartbeats 8000000 in
theorem nm_loop (E : Env) (n : Nat) (hpm : ∀ (t : Ty) (b : Bool), MCall Try.prog 150 [.ptr 0 0 0, .pv t.enc, .pv (ii n)] [some (nbk E b)] (.agg (Ty.tc (prj E n t b).1)) [some (nbk E (prj E n t b).2)])
    (k id : Int) (ss : List Ty) (hrec : ∀ t ∈ ss, ∀ b : Bool, MCall Try.prog 89 [.ptr 0 0 0, .pv t.enc, .pv (ii n)] [some (nbk E b)] (.agg (Ty.tc (nrmT (prj E n) t b).1)) [some (nbk E (nrmT (prj E n) t b).2)]) (b : Bool) :
    MCall Try.prog 89 [.ptr 0 0 0, .pv (Ty.mk k id ss).enc, .pv (ii n)] [some (nbk E b)] (.agg (Ty.tc (nrmT (prj E n) (.mk k id ss) b).1)) [some (nbk E (nrmT (prj E n) (.mk k id ss) b).2)] := by
  refine MCall.intro' fn89 (by simp) (by simp) (by simp) (LV_n E b) (HpOk_n E b) (HpOk_n E _) ⟨⟨_, rfl⟩, trivial, trivial, trivial⟩ (bd_tcV _) fun hok m => ?_
  have hss : ss.length ≤ 1099511627776 := by
    have := hok (Ty.mk k id ss).enc (by simp)
    simp only [Ty.enc, PV.ok, PV.okL, encL_len, big] at this; exact this.2.2.1.1
  clear hok
  unfold ac89
  simp only [argFrV, tagN, List.length_cons, List.length_nil, Option.map_some, Nat.zero_add, nbk, Nat.lt_one_iff, if_true]
  generalize hR : nrmT (prj E n) (.mk k id ss) b = R
  unfold nrmT at hR
  (repeat' (first | ((with_reducible first | refine qqT fun C hC => ?_ | refine qqU fun C hC => ?_ | intro C hC); simp only [go_sem, cells_enc, Ty.tc, kdT, idT, argsT, encL_len]; ((with_reducible first | refine finA hC ?_ | refine finD hC ?_); clear hC C)) | (with_reducible first | refine qqA fun K hK => ?_ | refine qqB fun K hK => ?_ | refine qqC fun K hK => ?_ | (refine qqD ?_; refine hK _ _ ?_; try clear hK K) | (refine qqE ?_; refine hK _ _ _ ?_ ?_; (focus kernel_rfl); try clear hK K) | (refine qqF ?_; refine hK _ _ ?_; try clear hK K) | refine qqG ?_ | refine qqH ?_ | refine qqI ?_ | refine qqJ ?_ | refine qqK ?_ | (refine qqL ?_; try clear hK K) | (refine qqM ?_; try clear hK K) | refine qqN ?_ | refine qqO ?_ | (refine qqP ?_ ?_; focus decide)) | ((with_reducible first | apply qqQ | apply qqR | apply qqS); focus (simp only [go_sem, cells_enc, Ty.tc, kdT, idT, argsT, encL_len]; exact rfl)) | (with_reducible first | refine gk_tt ?_ | refine gk_ff ?_ | refine ck_t ?_ | refine ck_f ?_) | ((with_reducible first | refine gk_tf ?_ | refine gk_ft ?_ | refine gk_u ?_ | refine gk_u' ?_); first | (intro _ e; (first | rw [qqY] at e | rw [qqZ] at e); subst e) | (intro _ _ e e'; (first | rw [qqY] at e | rw [qqZ] at e); subst e; subst e'))))
  -- loops
  have rows : ∀ (rest pre : List Ty), pre ++ rest = ss → loopN (awp Try.prog ac89_l0) (catch_ 0 (thn K (retM [RV.cell 6 3 true] (.agg (Ty.tc R.1)) 1 [some ⟨false, 119, 6, [[.pv (.list 6 (encSy E.sy)), .pv E.r1, .pv E.r2, .pv (.list 7 (encDc E.ds)), .pv (.list 4 (encTb E.az)), .pv (bb R.2)]], none⟩] m))) (rest.length + 1)
     [(18, .pv (ii pre.length)), (17, .pv (ii ss.length)), (16, .pv (.list 3 (encL ss))), (7, .ptr 3 0 0), (6, .ptr 2 0 0), (4, .ptr 1 0 0), (2, .pv (ii n)), (0, .ptr 0 0 0)] [some ⟨false, 119, 6, [[.pv (.list 6 (encSy E.sy)), .pv E.r1, .pv E.r2, .pv (.list 7 (encDc E.ds)), .pv (.list 4 (encTb E.az)), .pv (bb (nrmL (prj E n) pre b).2)]], some (m 0)⟩, some ⟨false, 26, 3, [[.pv (ii k), .pv (ii id), .pv (.list 3 (encL ss))]], none⟩, some ⟨false, 26, 3, [[.pv (ii 0), .pv (ii 0), .pv (.lit (.slice none 0 0))]], none⟩, some ⟨false, 26, 3, [[.pv (ii k), .pv (ii id), .row 4 pre.length false]], none⟩, some ⟨false, 26, 3, ((nrmL (prj E n) pre b).1).map Ty.tc, none⟩] := by
    intro rest
    induction rest with
    | nil =>
      intro pre hpre
      have hpre : pre = ss := by simpa using hpre
      have hlt : decide ((pre.length : Int) < (ss.length : Int)) = false := by rw [hpre]; exact lt_end _
      rw [← hpre] at hR
      refine loopN_k fun K1 hK1 => ?_
      unfold ac89_l0
      have hld : ∀ (d : Option Nat) (os : List AOp) (K : Fr → Hp → Prop) (fr : Fr), (∀ fr', put d (.pv (Ty.mk k id ((nrmL (prj E n) pre b).1)).enc) fr = fr' → aops Try.prog os fr' [some ⟨false, 119, 6, [[.pv (.list 6 (encSy E.sy)), .pv E.r1, .pv E.r2, .pv (.list 7 (encDc E.ds)), .pv (.list 4 (encTb E.az)), .pv (bb (nrmL (prj E n) pre b).2)]], some (m 0)⟩, some ⟨false, 26, 3, [[.pv (ii k), .pv (ii id), .pv (.list 3 (encL ss))]], none⟩, some ⟨false, 26, 3, [[.pv (ii 0), .pv (ii 0), .pv (.lit (.slice none 0 0))]], none⟩, some ⟨false, 26, 3, [[.pv (ii k), .pv (ii id), .row 4 pre.length false]], none⟩, some ⟨true, 26, 3, ((nrmL (prj E n) pre b).1).map Ty.tc, none⟩] K) → Ab.get fr 7 = .ptr 3 0 0 → aops Try.prog (⟨d, .load true 3 (.tmp 7), none⟩ :: os) fr [some ⟨false, 119, 6, [[.pv (.list 6 (encSy E.sy)), .pv E.r1, .pv E.r2, .pv (.list 7 (encDc E.ds)), .pv (.list 4 (encTb E.az)), .pv (bb (nrmL (prj E n) pre b).2)]], some (m 0)⟩, some ⟨false, 26, 3, [[.pv (ii k), .pv (ii id), .pv (.list 3 (encL ss))]], none⟩, some ⟨false, 26, 3, [[.pv (ii 0), .pv (ii 0), .pv (.lit (.slice none 0 0))]], none⟩, some ⟨false, 26, 3, [[.pv (ii k), .pv (ii id), .row 4 pre.length false]], none⟩, some ⟨false, 26, 3, ((nrmL (prj E n) pre b).1).map Ty.tc, none⟩] K := by
        intro d os K fr h h7
        refine aops_frz rfl [4] (Ty.mk k id ((nrmL (prj E n) pre b).1)).enc fun C hC => ?_
        simp only [go_sem, h7]
        refine hC _ _ _ _ _ ?_ rfl rfl (h _ rfl)
        rw [Ty.enc]
        exact .agg _ _ (.cons _ _ _ _ (.pv _) (.cons _ _ _ _ (.pv _) (.cons _ _ _ _ (row_tc (xs := (nrmL (prj E n) pre b).1) (by decide) rfl (nrmL_len _ _ _).symm) .nil)))
      cases hk : (k == 10) with
      | false =>
        rw [hk, if_neg (by simp)] at hR
        subst hR
        (repeat' (first | ((with_reducible refine hld _ _ _ _ (fun _ e => ?_) rfl); (first | rw [qqY] at e | rw [qqZ] at e); subst e) | ((with_reducible first | refine qqT fun C hC => ?_ | refine qqU fun C hC => ?_ | intro C hC); simp only [go_sem, hlt, cells_enc, Ty.tc, kdT, idT, argsT, hk]; ((with_reducible first | refine finA hC ?_ | refine finD hC ?_); clear hC C)) | (with_reducible first | refine qqA fun K hK => ?_ | refine qqB fun K hK => ?_ | refine qqC fun K hK => ?_ | (refine qqD ?_; refine hK _ _ ?_; try clear hK K) | (refine qqE ?_; refine hK _ _ _ ?_ ?_; (focus kernel_rfl); try clear hK K) | (refine qqF ?_; refine hK _ _ ?_; try clear hK K) | refine qqG ?_ | refine qqH ?_ | refine qqI ?_ | refine qqJ ?_ | refine qqK ?_ | (refine qqL ?_; try clear hK K) | (refine qqM ?_; try clear hK K) | refine qqN ?_ | refine qqO ?_ | (refine qqP ?_ ?_; focus decide)) | ((with_reducible first | apply qqQ | apply qqR | apply qqS); focus (simp only [go_sem, hlt, cells_enc, Ty.tc, kdT, idT, argsT, hk]; exact rfl)) | (with_reducible first | refine gk_tt ?_ | refine gk_ff ?_ | refine ck_t ?_ | refine ck_f ?_) | ((with_reducible first | refine gk_tf ?_ | refine gk_ft ?_ | refine gk_u ?_ | refine gk_u' ?_); first | (intro _ e; (first | rw [qqY] at e | rw [qqZ] at e); subst e) | (intro _ _ e e'; (first | rw [qqY] at e | rw [qqZ] at e); subst e; subst e'))))
        refine ⟨[.agg (Ty.tc (Ty.mk k id ((nrmL (prj E n) pre b).1)))], rfl, fun b => [0].getD b 0, ?_⟩
        simp only [tagN, Option.map_some]
        exact (LeB [0] (by refine ⟨?_, ?_, ?_⟩ <;> simp only [leFr, leFb, leHp, V.ren, V.renL, V.bd, V.bdL, allL, lt, Go.Ab.get, hget, List.map_cons, List.map_nil, List.length_cons, List.length_nil, List.length_append, List.getElem?_cons_zero, List.getElem?_cons_succ, List.getElem?_nil, Option.join_some, Option.join_none, List.getD_cons_zero, List.getD_cons_succ, List.getD_nil, Nat.reduceAdd, Nat.reduceLT, Nat.reduceEqDiff, Nat.zero_add, reduceIte, if_true, if_false, and_true, true_and, renL_vcells, allL_vcells, renL_pv, leBlk_some, eq_self, true_or, or_true, reduceCtorEq, false_or, oneW, allL, Ty.tc]))
      | true =>
        rw [hk, if_pos rfl] at hR
        have hp := hpm (Ty.mk k id ((nrmL (prj E n) pre b).1)) ((nrmL (prj E n) pre b).2)
        rw [hR] at hp
        (repeat' (first | ((with_reducible refine hld _ _ _ _ (fun _ e => ?_) rfl); (first | rw [qqY] at e | rw [qqZ] at e); subst e) | ((with_reducible first | refine qqT fun C hC => ?_ | refine qqU fun C hC => ?_ | intro C hC); simp only [go_sem, hlt, cells_enc, Ty.tc, kdT, idT, argsT, hk]; ((with_reducible first | refine finA hC ?_ | refine finD hC ?_); clear hC C)) | (with_reducible first | refine qqA fun K hK => ?_ | refine qqB fun K hK => ?_ | refine qqC fun K hK => ?_ | (refine qqD ?_; refine hK _ _ ?_; try clear hK K) | (refine qqE ?_; refine hK _ _ _ ?_ ?_; (focus kernel_rfl); try clear hK K) | (refine qqF ?_; refine hK _ _ ?_; try clear hK K) | refine qqG ?_ | refine qqH ?_ | refine qqI ?_ | refine qqJ ?_ | refine qqK ?_ | (refine qqL ?_; try clear hK K) | (refine qqM ?_; try clear hK K) | refine qqN ?_ | refine qqO ?_ | (refine qqP ?_ ?_; focus decide)) | ((with_reducible first | apply qqQ | apply qqR | apply qqS); focus (simp only [go_sem, hlt, cells_enc, Ty.tc, kdT, idT, argsT, hk]; exact rfl)) | (with_reducible first | refine gk_tt ?_ | refine gk_ff ?_ | refine ck_t ?_ | refine ck_f ?_) | ((with_reducible first | refine gk_tf ?_ | refine gk_ft ?_ | refine gk_u ?_ | refine gk_u' ?_); first | (intro _ e; (first | rw [qqY] at e | rw [qqZ] at e); subst e) | (intro _ _ e e'; (first | rw [qqY] at e | rw [qqZ] at e); subst e; subst e'))))
        refine qqV fun C hC => ?_
        simp only [go_sem]
        refine ACall.heap [0] hp rfl (by decide) (by decide) (VM.eq (.ptr 0 0 0) _ _ (VM.eq (.pv (Ty.mk k id ((nrmL (prj E n) pre b).1)).enc) _ _ (VM.eq (.pv (ii n)) _ _ .nil))) (hhN rfl) ?_
        simp only [V.ren, V.renL, outD, outB, rho0, hget_zero, Option.map_some, Option.bind_some, nbk, Ty.tc, List.map_cons, List.map_nil]
        (with_reducible refine finA hC ?_); clear hC C
        (repeat' (first | ((with_reducible first | refine qqT fun C hC => ?_ | refine qqU fun C hC => ?_ | intro C hC); simp only [go_sem]; ((with_reducible first | refine finA hC ?_ | refine finD hC ?_); clear hC C)) | (with_reducible first | refine qqA fun K hK => ?_ | refine qqB fun K hK => ?_ | refine qqC fun K hK => ?_ | (refine qqD ?_; refine hK _ _ ?_; try clear hK K) | (refine qqE ?_; refine hK _ _ _ ?_ ?_; (focus kernel_rfl); try clear hK K) | (refine qqF ?_; refine hK _ _ ?_; try clear hK K) | refine qqG ?_ | refine qqH ?_ | refine qqI ?_ | refine qqJ ?_ | refine qqK ?_ | (refine qqL ?_; try clear hK K) | (refine qqM ?_; try clear hK K) | refine qqN ?_ | refine qqO ?_ | (refine qqP ?_ ?_; focus decide)) | ((with_reducible first | apply qqQ | apply qqR | apply qqS); focus (simp only [go_sem]; exact rfl)) | (with_reducible first | refine gk_tt ?_ | refine gk_ff ?_ | refine ck_t ?_ | refine ck_f ?_) | ((with_reducible first | refine gk_tf ?_ | refine gk_ft ?_ | refine gk_u ?_ | refine gk_u' ?_); first | (intro _ e; (first | rw [qqY] at e | rw [qqZ] at e); subst e) | (intro _ _ e e'; (first | rw [qqY] at e | rw [qqZ] at e); subst e; subst e'))))
        refine ⟨[.agg (Ty.tc R.1)], rfl, fun b => [0].getD b 0, ?_⟩
        simp only [tagN, Option.map_some]
        exact (LeB [0] (by refine ⟨?_, ?_, ?_⟩ <;> simp only [leFr, leFb, leHp, V.ren, V.renL, V.bd, V.bdL, allL, lt, Go.Ab.get, hget, List.map_cons, List.map_nil, List.length_cons, List.length_nil, List.length_append, List.getElem?_cons_zero, List.getElem?_cons_succ, List.getElem?_nil, Option.join_some, Option.join_none, List.getD_cons_zero, List.getD_cons_succ, List.getD_nil, Nat.reduceAdd, Nat.reduceLT, Nat.reduceEqDiff, Nat.zero_add, reduceIte, if_true, if_false, and_true, true_and, renL_vcells, allL_vcells, renL_pv, leBlk_some, eq_self, true_or, or_true, reduceCtorEq, false_or, oneW, allL, Ty.tc]))
    | cons t rest ih =>
      intro pre hpre
      have hlt : decide ((pre.length : Int) < (ss.length : Int)) = true := by rw [← hpre]; exact lt_app _ _ _
      have hat : (encL ss)[pre.length]? = some t.enc := by rw [← hpre]; exact encL_at _ _ _
      have hb : pre.length + 1 ≤ big := by have := congrArg List.length hpre; simp at this; unfold big; omega
      have hw := wrapS (n := pre.length) (by unfold big at hb; omega)
      have hc := hrec t (by rw [← hpre]; simp) (nrmL (prj E n) pre b).2
      have hln := nrmL_len (prj E n) pre b
      refine loopN_k fun K1 hK1 => ?_
      unfold ac89_l0
      (repeat' (first | ((with_reducible first | refine qqT fun C hC => ?_ | refine qqU fun C hC => ?_ | intro C hC); simp only [go_sem, hlt, hat, cells_enc, pcells_enc, Ty.tc]; ((with_reducible first | refine finA hC ?_ | refine finD hC ?_); clear hC C)) | (with_reducible first | refine qqA fun K hK => ?_ | refine qqB fun K hK => ?_ | refine qqC fun K hK => ?_ | (refine qqD ?_; refine hK _ _ ?_; try clear hK K) | (refine qqE ?_; refine hK _ _ _ ?_ ?_; (focus kernel_rfl); try clear hK K) | (refine qqF ?_; refine hK _ _ ?_; try clear hK K) | refine qqG ?_ | refine qqH ?_ | refine qqI ?_ | refine qqJ ?_ | refine qqK ?_ | (refine qqL ?_; try clear hK K) | (refine qqM ?_; try clear hK K) | refine qqN ?_ | refine qqO ?_ | (refine qqP ?_ ?_; focus decide)) | ((with_reducible first | apply qqQ | apply qqR | apply qqS); focus (simp only [go_sem, hlt, hat, cells_enc, pcells_enc, Ty.tc]; exact rfl)) | (with_reducible first | refine gk_tt ?_ | refine gk_ff ?_ | refine ck_t ?_ | refine ck_f ?_) | ((with_reducible first | refine gk_tf ?_ | refine gk_ft ?_ | refine gk_u ?_ | refine gk_u' ?_); first | (intro _ e; (first | rw [qqY] at e | rw [qqZ] at e); subst e) | (intro _ _ e e'; (first | rw [qqY] at e | rw [qqZ] at e); subst e; subst e'))))
      refine qqW fun C hC => ?_
      simp only [go_sem]
      refine ACall.heap [0] hc rfl (by decide) (by decide) (VM.eq (.ptr 0 0 0) _ _ (VM.pv (.agg [.pv (ii t.kd), .pv (ii t.id), .pv (.list 3 (encL t.args))]) _ _ _ (by rw [enc3]; exact .agg _ _ (.cons _ _ _ _ (.pv _) (.cons _ _ _ _ (.pv _) (.cons _ _ _ _ (.pv _) .nil)))) (VM.eq (.pv (ii n)) _ _ .nil))) (hhN rfl) ?_
      simp only [V.ren, V.renL, outD, outB, rho0, hget_zero, Option.map_some, Option.bind_some, nbk, Ty.tc, List.map_cons, List.map_nil]
      (with_reducible refine finD hC ?_); clear hC C
      (repeat' (first | ((with_reducible first | refine qqT fun C hC => ?_ | refine qqU fun C hC => ?_ | intro C hC); simp only [go_sem, List.length_map, hln, hb]; ((with_reducible first | refine finA hC ?_ | refine finD hC ?_); clear hC C)) | (with_reducible first | refine qqA fun K hK => ?_ | refine qqB fun K hK => ?_ | refine qqC fun K hK => ?_ | (refine qqD ?_; refine hK _ _ ?_; try clear hK K) | (refine qqE ?_; refine hK _ _ _ ?_ ?_; (focus kernel_rfl); try clear hK K) | (refine qqF ?_; refine hK _ _ ?_; try clear hK K) | refine qqG ?_ | refine qqH ?_ | refine qqI ?_ | refine qqJ ?_ | refine qqK ?_ | (refine qqL ?_; try clear hK K) | (refine qqM ?_; try clear hK K) | refine qqN ?_ | refine qqO ?_ | (refine qqP ?_ ?_; focus decide)) | ((with_reducible first | apply qqQ | apply qqR | apply qqS); focus (simp only [go_sem, List.length_map, hln, hb]; exact rfl)) | (with_reducible first | refine gk_tt ?_ | refine gk_ff ?_ | refine ck_t ?_ | refine ck_f ?_) | ((with_reducible first | refine gk_tf ?_ | refine gk_ft ?_ | refine gk_u ?_ | refine gk_u' ?_); first | (intro _ e; (first | rw [qqY] at e | rw [qqZ] at e); subst e) | (intro _ _ e e'; (first | rw [qqY] at e | rw [qqZ] at e); subst e; subst e'))))
      refine qqF ?_
      refine hK1 _ _ _ _ _ (LeB [0, 1, 2, 3, 13] (by refine ⟨?_, ?_, ?_⟩ <;> simp only [leFr, leFb, leHp, V.ren, V.renL, V.bd, V.bdL, allL, lt, Go.Ab.get, hget, List.map_cons, List.map_nil, List.length_cons, List.length_nil, List.length_append, List.getElem?_cons_zero, List.getElem?_cons_succ, List.getElem?_nil, Option.join_some, Option.join_none, List.getD_cons_zero, List.getD_cons_succ, List.getD_nil, Nat.reduceAdd, Nat.reduceLT, Nat.reduceEqDiff, Nat.zero_add, reduceIte, if_true, if_false, and_true, true_and, renL_vcells, allL_vcells, renL_pv, leBlk_some, eq_self, true_or, or_true, reduceCtorEq, false_or, hw, List.length_append, nrmL_end, List.map_append, List.map_cons, List.map_nil, renL_tc, renL_tc1, allL_tc, allL_app, bdL_tc, allL, Ty.tc])) (ih (pre ++ [t]) (by simp [hpre]))
  have first : loopN (awp Try.prog ac89_l0) (catch_ 0 (thn K (retM [RV.cell 6 3 true] (.agg (Ty.tc R.1)) 1 [some ⟨false, 119, 6, [[.pv (.list 6 (encSy E.sy)), .pv E.r1, .pv E.r2, .pv (.list 7 (encDc E.ds)), .pv (.list 4 (encTb E.az)), .pv (bb R.2)]], none⟩] m))) (ss.length + 1)
     [(18, .pv (ii 0)), (17, .pv (ii ss.length)), (16, .pv (.list 3 (encL ss))), (7, .ptr 3 0 0), (6, .ptr 2 0 0), (4, .ptr 1 0 0), (2, .pv (ii n)), (0, .ptr 0 0 0)] [some ⟨false, 119, 6, [[.pv (.list 6 (encSy E.sy)), .pv E.r1, .pv E.r2, .pv (.list 7 (encDc E.ds)), .pv (.list 4 (encTb E.az)), .pv (bb b)]], some (m 0)⟩, some ⟨false, 26, 3, [[.pv (ii k), .pv (ii id), .pv (.list 3 (encL ss))]], none⟩, some ⟨false, 26, 3, [[.pv (ii 0), .pv (ii 0), .pv (.lit (.slice none 0 0))]], none⟩, some ⟨false, 26, 3, [[.pv (ii k), .pv (ii id), .pv (.lit (.slice none 0 0))]], none⟩] := by
    cases hs : ss with
    | nil =>
      rw [hs] at hR
      simp only [nrmL] at hR
      have hlt : decide ((0 : Int) < (([] : List Ty).length : Int)) = false := rfl
      refine loopN_k fun K1 hK1 => ?_
      unfold ac89_l0
      have hld : ∀ (d : Option Nat) (os : List AOp) (K : Fr → Hp → Prop) (fr : Fr), (∀ fr', put d (.pv (Ty.mk k id ([])).enc) fr = fr' → aops Try.prog os fr' [some ⟨false, 119, 6, [[.pv (.list 6 (encSy E.sy)), .pv E.r1, .pv E.r2, .pv (.list 7 (encDc E.ds)), .pv (.list 4 (encTb E.az)), .pv (bb b)]], some (m 0)⟩, some ⟨false, 26, 3, [[.pv (ii k), .pv (ii id), .pv (.list 3 (encL []))]], none⟩, some ⟨false, 26, 3, [[.pv (ii 0), .pv (ii 0), .pv (.lit (.slice none 0 0))]], none⟩, some ⟨false, 26, 3, [[.pv (ii k), .pv (ii id), .pv (.lit (.slice none 0 0))]], none⟩] K) → Ab.get fr 7 = .ptr 3 0 0 → aops Try.prog (⟨d, .load true 3 (.tmp 7), none⟩ :: os) fr [some ⟨false, 119, 6, [[.pv (.list 6 (encSy E.sy)), .pv E.r1, .pv E.r2, .pv (.list 7 (encDc E.ds)), .pv (.list 4 (encTb E.az)), .pv (bb b)]], some (m 0)⟩, some ⟨false, 26, 3, [[.pv (ii k), .pv (ii id), .pv (.list 3 (encL []))]], none⟩, some ⟨false, 26, 3, [[.pv (ii 0), .pv (ii 0), .pv (.lit (.slice none 0 0))]], none⟩, some ⟨false, 26, 3, [[.pv (ii k), .pv (ii id), .pv (.lit (.slice none 0 0))]], none⟩] K := by
        intro d os K fr h h7
        refine aops_frz rfl [] (Ty.mk k id ([])).enc fun C hC => ?_
        simp only [go_sem, h7]
        refine hC _ _ _ _ _ ?_ rfl rfl (h _ rfl)
        rw [Ty.enc]
        exact .agg _ _ (.cons _ _ _ _ (.pv _) (.cons _ _ _ _ (.pv _) (.cons _ _ _ _ (Vw_nil) .nil)))
      cases hk : (k == 10) with
      | false =>
        rw [hk, if_neg (by simp)] at hR
        subst hR
        (repeat' (first | ((with_reducible refine hld _ _ _ _ (fun _ e => ?_) rfl); (first | rw [qqY] at e | rw [qqZ] at e); subst e) | ((with_reducible first | refine qqT fun C hC => ?_ | refine qqU fun C hC => ?_ | intro C hC); simp only [go_sem, hlt, cells_enc, Ty.tc, kdT, idT, argsT, hk]; ((with_reducible first | refine finA hC ?_ | refine finD hC ?_); clear hC C)) | (with_reducible first | refine qqA fun K hK => ?_ | refine qqB fun K hK => ?_ | refine qqC fun K hK => ?_ | (refine qqD ?_; refine hK _ _ ?_; try clear hK K) | (refine qqE ?_; refine hK _ _ _ ?_ ?_; (focus kernel_rfl); try clear hK K) | (refine qqF ?_; refine hK _ _ ?_; try clear hK K) | refine qqG ?_ | refine qqH ?_ | refine qqI ?_ | refine qqJ ?_ | refine qqK ?_ | (refine qqL ?_; try clear hK K) | (refine qqM ?_; try clear hK K) | refine qqN ?_ | refine qqO ?_ | (refine qqP ?_ ?_; focus decide)) | ((with_reducible first | apply qqQ | apply qqR | apply qqS); focus (simp only [go_sem, hlt, cells_enc, Ty.tc, kdT, idT, argsT, hk]; exact rfl)) | (with_reducible first | refine gk_tt ?_ | refine gk_ff ?_ | refine ck_t ?_ | refine ck_f ?_) | ((with_reducible first | refine gk_tf ?_ | refine gk_ft ?_ | refine gk_u ?_ | refine gk_u' ?_); first | (intro _ e; (first | rw [qqY] at e | rw [qqZ] at e); subst e) | (intro _ _ e e'; (first | rw [qqY] at e | rw [qqZ] at e); subst e; subst e'))))
        refine ⟨[.agg (Ty.tc (Ty.mk k id ([])))], rfl, fun b => [0].getD b 0, ?_⟩
        simp only [tagN, Option.map_some]
        exact (LeB [0] (by refine ⟨?_, ?_, ?_⟩ <;> simp only [leFr, leFb, leHp, V.ren, V.renL, V.bd, V.bdL, allL, lt, Go.Ab.get, hget, List.map_cons, List.map_nil, List.length_cons, List.length_nil, List.length_append, List.getElem?_cons_zero, List.getElem?_cons_succ, List.getElem?_nil, Option.join_some, Option.join_none, List.getD_cons_zero, List.getD_cons_succ, List.getD_nil, Nat.reduceAdd, Nat.reduceLT, Nat.reduceEqDiff, Nat.zero_add, reduceIte, if_true, if_false, and_true, true_and, renL_vcells, allL_vcells, renL_pv, leBlk_some, eq_self, true_or, or_true, reduceCtorEq, false_or, oneW, allL, Ty.tc]))
      | true =>
        rw [hk, if_pos rfl] at hR
        have hp := hpm (Ty.mk k id ([])) (b)
        rw [hR] at hp
        (repeat' (first | ((with_reducible refine hld _ _ _ _ (fun _ e => ?_) rfl); (first | rw [qqY] at e | rw [qqZ] at e); subst e) | ((with_reducible first | refine qqT fun C hC => ?_ | refine qqU fun C hC => ?_ | intro C hC); simp only [go_sem, hlt, cells_enc, Ty.tc, kdT, idT, argsT, hk]; ((with_reducible first | refine finA hC ?_ | refine finD hC ?_); clear hC C)) | (with_reducible first | refine qqA fun K hK => ?_ | refine qqB fun K hK => ?_ | refine qqC fun K hK => ?_ | (refine qqD ?_; refine hK _ _ ?_; try clear hK K) | (refine qqE ?_; refine hK _ _ _ ?_ ?_; (focus kernel_rfl); try clear hK K) | (refine qqF ?_; refine hK _ _ ?_; try clear hK K) | refine qqG ?_ | refine qqH ?_ | refine qqI ?_ | refine qqJ ?_ | refine qqK ?_ | (refine qqL ?_; try clear hK K) | (refine qqM ?_; try clear hK K) | refine qqN ?_ | refine qqO ?_ | (refine qqP ?_ ?_; focus decide)) | ((with_reducible first | apply qqQ | apply qqR | apply qqS); focus (simp only [go_sem, hlt, cells_enc, Ty.tc, kdT, idT, argsT, hk]; exact rfl)) | (with_reducible first | refine gk_tt ?_ | refine gk_ff ?_ | refine ck_t ?_ | refine ck_f ?_) | ((with_reducible first | refine gk_tf ?_ | refine gk_ft ?_ | refine gk_u ?_ | refine gk_u' ?_); first | (intro _ e; (first | rw [qqY] at e | rw [qqZ] at e); subst e) | (intro _ _ e e'; (first | rw [qqY] at e | rw [qqZ] at e); subst e; subst e'))))
        refine qqV fun C hC => ?_
        simp only [go_sem]
        refine ACall.heap [0] hp rfl (by decide) (by decide) (VM.eq (.ptr 0 0 0) _ _ (VM.eq (.pv (Ty.mk k id ([])).enc) _ _ (VM.eq (.pv (ii n)) _ _ .nil))) (hhN rfl) ?_
        simp only [V.ren, V.renL, outD, outB, rho0, hget_zero, Option.map_some, Option.bind_some, nbk, Ty.tc, List.map_cons, List.map_nil]
        (with_reducible refine finA hC ?_); clear hC C
        (repeat' (first | ((with_reducible first | refine qqT fun C hC => ?_ | refine qqU fun C hC => ?_ | intro C hC); simp only [go_sem]; ((with_reducible first | refine finA hC ?_ | refine finD hC ?_); clear hC C)) | (with_reducible first | refine qqA fun K hK => ?_ | refine qqB fun K hK => ?_ | refine qqC fun K hK => ?_ | (refine qqD ?_; refine hK _ _ ?_; try clear hK K) | (refine qqE ?_; refine hK _ _ _ ?_ ?_; (focus kernel_rfl); try clear hK K) | (refine qqF ?_; refine hK _ _ ?_; try clear hK K) | refine qqG ?_ | refine qqH ?_ | refine qqI ?_ | refine qqJ ?_ | refine qqK ?_ | (refine qqL ?_; try clear hK K) | (refine qqM ?_; try clear hK K) | refine qqN ?_ | refine qqO ?_ | (refine qqP ?_ ?_; focus decide)) | ((with_reducible first | apply qqQ | apply qqR | apply qqS); focus (simp only [go_sem]; exact rfl)) | (with_reducible first | refine gk_tt ?_ | refine gk_ff ?_ | refine ck_t ?_ | refine ck_f ?_) | ((with_reducible first | refine gk_tf ?_ | refine gk_ft ?_ | refine gk_u ?_ | refine gk_u' ?_); first | (intro _ e; (first | rw [qqY] at e | rw [qqZ] at e); subst e) | (intro _ _ e e'; (first | rw [qqY] at e | rw [qqZ] at e); subst e; subst e'))))
        refine ⟨[.agg (Ty.tc R.1)], rfl, fun b => [0].getD b 0, ?_⟩
        simp only [tagN, Option.map_some]
        exact (LeB [0] (by refine ⟨?_, ?_, ?_⟩ <;> simp only [leFr, leFb, leHp, V.ren, V.renL, V.bd, V.bdL, allL, lt, Go.Ab.get, hget, List.map_cons, List.map_nil, List.length_cons, List.length_nil, List.length_append, List.getElem?_cons_zero, List.getElem?_cons_succ, List.getElem?_nil, Option.join_some, Option.join_none, List.getD_cons_zero, List.getD_cons_succ, List.getD_nil, Nat.reduceAdd, Nat.reduceLT, Nat.reduceEqDiff, Nat.zero_add, reduceIte, if_true, if_false, and_true, true_and, renL_vcells, allL_vcells, renL_pv, leBlk_some, eq_self, true_or, or_true, reduceCtorEq, false_or, oneW, allL, Ty.tc]))
    | cons t rest =>
      have hlt : decide ((0 : Int) < ((t :: rest).length : Int)) = true := by simp
      have hat : (encL (t :: rest))[0]? = some t.enc := rfl
      have hc := hrec t (by rw [hs]; simp) b
      rw [hs] at rows
      refine loopN_k fun K1 hK1 => ?_
      unfold ac89_l0
      (repeat' (first | ((with_reducible first | refine qqT fun C hC => ?_ | refine qqU fun C hC => ?_ | intro C hC); simp only [go_sem, hlt, hat, cells_enc, pcells_enc, Ty.tc]; ((with_reducible first | refine finA hC ?_ | refine finD hC ?_); clear hC C)) | (with_reducible first | refine qqA fun K hK => ?_ | refine qqB fun K hK => ?_ | refine qqC fun K hK => ?_ | (refine qqD ?_; refine hK _ _ ?_; try clear hK K) | (refine qqE ?_; refine hK _ _ _ ?_ ?_; (focus kernel_rfl); try clear hK K) | (refine qqF ?_; refine hK _ _ ?_; try clear hK K) | refine qqG ?_ | refine qqH ?_ | refine qqI ?_ | refine qqJ ?_ | refine qqK ?_ | (refine qqL ?_; try clear hK K) | (refine qqM ?_; try clear hK K) | refine qqN ?_ | refine qqO ?_ | (refine qqP ?_ ?_; focus decide)) | ((with_reducible first | apply qqQ | apply qqR | apply qqS); focus (simp only [go_sem, hlt, hat, cells_enc, pcells_enc, Ty.tc]; exact rfl)) | (with_reducible first | refine gk_tt ?_ | refine gk_ff ?_ | refine ck_t ?_ | refine ck_f ?_) | ((with_reducible first | refine gk_tf ?_ | refine gk_ft ?_ | refine gk_u ?_ | refine gk_u' ?_); first | (intro _ e; (first | rw [qqY] at e | rw [qqZ] at e); subst e) | (intro _ _ e e'; (first | rw [qqY] at e | rw [qqZ] at e); subst e; subst e'))))
      refine qqW fun C hC => ?_
      simp only [go_sem]
      refine ACall.heap [0] hc rfl (by decide) (by decide) (VM.eq (.ptr 0 0 0) _ _ (VM.pv (.agg [.pv (ii t.kd), .pv (ii t.id), .pv (.list 3 (encL t.args))]) _ _ _ (by rw [enc3]; exact .agg _ _ (.cons _ _ _ _ (.pv _) (.cons _ _ _ _ (.pv _) (.cons _ _ _ _ (.pv _) .nil)))) (VM.eq (.pv (ii n)) _ _ .nil))) (hhN rfl) ?_
      simp only [V.ren, V.renL, outD, outB, rho0, hget_zero, Option.map_some, Option.bind_some, nbk, Ty.tc, List.map_cons, List.map_nil]
      (with_reducible refine finD hC ?_); clear hC C
      (repeat' (first | ((with_reducible first | refine qqT fun C hC => ?_ | refine qqU fun C hC => ?_ | intro C hC); simp only [go_sem]; ((with_reducible first | refine finA hC ?_ | refine finD hC ?_); clear hC C)) | (with_reducible first | refine qqA fun K hK => ?_ | refine qqB fun K hK => ?_ | refine qqC fun K hK => ?_ | (refine qqD ?_; refine hK _ _ ?_; try clear hK K) | (refine qqE ?_; refine hK _ _ _ ?_ ?_; (focus kernel_rfl); try clear hK K) | (refine qqF ?_; refine hK _ _ ?_; try clear hK K) | refine qqG ?_ | refine qqH ?_ | refine qqI ?_ | refine qqJ ?_ | refine qqK ?_ | (refine qqL ?_; try clear hK K) | (refine qqM ?_; try clear hK K) | refine qqN ?_ | refine qqO ?_ | (refine qqP ?_ ?_; focus decide)) | ((with_reducible first | apply qqQ | apply qqR | apply qqS); focus (simp only [go_sem]; exact rfl)) | (with_reducible first | refine gk_tt ?_ | refine gk_ff ?_ | refine ck_t ?_ | refine ck_f ?_) | ((with_reducible first | refine gk_tf ?_ | refine gk_ft ?_ | refine gk_u ?_ | refine gk_u' ?_); first | (intro _ e; (first | rw [qqY] at e | rw [qqZ] at e); subst e) | (intro _ _ e e'; (first | rw [qqY] at e | rw [qqZ] at e); subst e; subst e'))))
      refine qqF ?_
      refine hK1 _ _ _ _ _ (LeB [0, 1, 2, 3, 12] (by refine ⟨?_, ?_, ?_⟩ <;> simp only [leFr, leFb, leHp, V.ren, V.renL, V.bd, V.bdL, allL, lt, Go.Ab.get, hget, List.map_cons, List.map_nil, List.length_cons, List.length_nil, List.length_append, List.getElem?_cons_zero, List.getElem?_cons_succ, List.getElem?_nil, Option.join_some, Option.join_none, List.getD_cons_zero, List.getD_cons_succ, List.getD_nil, Nat.reduceAdd, Nat.reduceLT, Nat.reduceEqDiff, Nat.zero_add, reduceIte, if_true, if_false, and_true, true_and, renL_vcells, allL_vcells, renL_pv, leBlk_some, eq_self, true_or, or_true, reduceCtorEq, false_or, wrap01, nrmL, List.map_cons, List.map_nil, renL_tc, renL_tc1, allL_tc, allL_app, bdL_tc, allL, Ty.tc])) (rows rest [t] rfl)
  refine awp_loop_k _ (LeB [0, 1, 2, 3] (by refine ⟨?_, ?_, ?_⟩ <;> simp only [leFr, leFb, leHp, V.ren, V.renL, V.bd, V.bdL, allL, lt, Go.Ab.get, hget, List.map_cons, List.map_nil, List.length_cons, List.length_nil, List.length_append, List.getElem?_cons_zero, List.getElem?_cons_succ, List.getElem?_nil, Option.join_some, Option.join_none, List.getD_cons_zero, List.getD_cons_succ, List.getD_nil, Nat.reduceAdd, Nat.reduceLT, Nat.reduceEqDiff, Nat.zero_add, reduceIte, if_true, if_false, and_true, true_and, renL_vcells, allL_vcells, renL_pv, leBlk_some, eq_self, true_or, or_true, reduceCtorEq, false_or, allL])) first
theorem nm_ok (E : Env) (n : Nat) (hpm : ∀ (t : Ty) (b : Bool), MCall Try.prog 150 [.ptr 0 0 0, .pv t.enc, .pv (ii n)] [some (nbk E b)] (.agg (Ty.tc (prj E n t b).1)) [some (nbk E (prj E n t b).2)]) : ∀ (t : Ty) (b : Bool),
    MCall Try.prog 89 [.ptr 0 0 0, .pv t.enc, .pv (ii n)] [some (nbk E b)] (.agg (Ty.tc (nrmT (prj E n) t b).1)) [some (nbk E (nrmT (prj E n) t b).2)]
  | .mk k id ss, b => nm_loop E n hpm k id ss (fun t ht b => nm_ok E n hpm t b) b
termination_by t => SizeOf.sizeOf t
decreasing_by
  have := List.sizeOf_lt_of_mem ht
  simp only [Ty.mk.sizeOf_spec]; omega
theorem nrm_ok (E : Env) (hlen : E.ds.length = E.sy.length) : ∀ (n : Nat), n ≤ 1000 → ∀ (t : Ty) (b : Bool),
    MCall Try.prog 89 [.ptr 0 0 0, .pv t.enc, .pv (ii n)] [some (nbk E b)] (.agg (Ty.tc (nrmT (prj E n) t b).1)) [some (nbk E (nrmT (prj E n) t b).2)] := by
  intro n
  induction n with
  | zero => intro hn; exact nm_ok E 0 (pm_ok E hlen 0 hn fun k hk => by omega)
  | succ n ih => intro hn; exact nm_ok E (n + 1) (pm_ok E hlen (n + 1) hn fun k hk => by obtain rfl : k = n := by omega
                                                                                         exact ih (by omega))
end Go.Proofs.Ytbdoblgofddhdaa
