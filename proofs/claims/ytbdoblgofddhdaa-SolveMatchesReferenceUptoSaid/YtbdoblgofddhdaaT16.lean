/- T16: joined from V13. -/
import Derived.Test.YtbdoblgofddhdaaFnT
import Derived.Test.YtbdoblgofddhdaaT15
/- Traits: the reference's search answers as the program's. -/
set_option maxRecDepth 10000
set_option linter.unusedSimpArgs false
set_option linter.unusedVariables false
namespace Go.Proofs.Ytbdoblgofddhdaa
open Go Go.Ab
theorem okD_allO {t : Ty} {tr : Int} {d : Dc} (h : (d.tr == tr) = true) : okD t tr d = allO d.t d.ps (matchR d.ps t d.t).1 := by
  unfold okD
  rw [allO_eq, h]
  cases d.ps.any (fun p => !occP p d.t) <;> cases (matchR d.ps t d.t).1 <;> rfl
def solD (ds : List Dc) (az : List Tb) (n : Nat) (t : Ty) (tr : Int) (i : Nat) (xs : List Ty) (d : Dc) : Option Prf :=
  if decide ((d.bs.length : Int) > 4) then none else match solL (sol ds az n) d.ps xs d.bs with
    | none => none
    | some ps => some (.mk t tr i (-1) xs ps)
set_option maxHeartbeats 8000000 in
theorem sp_l3 {ds : List Dc} {az : List Tb} {t : Ty} {tr : Int} {n : Nat} {r0 r1 : PV} (hn : n ≤ 1000) (hdl : ds.length ≤ 1099511627776) (hbs : ∀ d ∈ ds, d.bs.length ≤ 1099511627776 ∧ d.ps.length ≤ 1099511627776) (hds : ∀ d ∈ ds, nds d.t ≤ 1099511627776)
    (ihn : ∀ (t : Ty) (tr : Int), PCall Try.prog 27 [.list 7 (encDc ds), .list 4 (encTb az), t.enc, ii tr, ii n] (solV (sol ds az n t tr)))
    (hN : mImp t tr ds 0 = none → r0 = zP.enc ∧ r1 = bb false) (hS : ∀ i xs d, mImp t tr ds 0 = some (i, xs) → ds[i]? = some d → solV (solD ds az n t tr i xs d) = .tup [r0, r1])
    {K : Fr → Hp → Prop}
    (hK : ∀ fr H, awp Try.prog (AC.seq (AC.reg [⟨some 143, .load true 8 (.tmp 12), none⟩, ⟨none, .store 8 (.tmp 10) (.tmp 143), none⟩, ⟨some 11, .mov (.const (.bool false)), none⟩]) AC.ret) (retP [RV.cell 10 8 true, RV.tmp 11] [r0, r1]) fr H → K fr H) :
    ∀ (rest pre : List Dc), pre ++ rest = ds → mImp t tr ds 0 = mImp t tr rest pre.length → loopN (awp Try.prog ac27_l3) (catch_ 2 (thn K (retP [RV.cell 10 8 true, RV.tmp 11] [r0, r1]))) (rest.length + 1)
      [(63, .pv (ii pre.length)), (62, .pv (ii ds.length)), (61, .pv (.list 7 (encDc ds))), (12, .ptr 2 0 0), (10, .ptr 1 0 0), (7, .ptr 0 0 0), (4, .pv (ii (n + 1 : Nat))), (3, .pv (ii tr)), (1, .pv (.list 4 (encTb az))), (0, .pv (.list 7 (encDc ds)))]
      [some ⟨false, 26, 3, [[.pv (ii t.kd), .pv (ii t.id), .pv (.list 3 (encL t.args))]], none⟩, some ⟨false, 30, 8, [[.pv (ii 0), .pv (ii 0), .pv (.lit (.slice none 0 0)), .pv (ii 0), .pv (ii 0), .pv (ii 0), .pv (.lit (.slice none 0 0)), .pv (.lit (.slice none 0 0))]], none⟩, some ⟨false, 30, 8, [[.pv (ii 0), .pv (ii 0), .pv (.lit (.slice none 0 0)), .pv (ii 0), .pv (ii 0), .pv (ii 0), .pv (.lit (.slice none 0 0)), .pv (.lit (.slice none 0 0))]], none⟩] := by
  intro rest
  induction rest with
  | nil =>
    intro pre hpre he
    have hpre : pre = ds := by simpa using hpre
    have hlt : decide ((pre.length : Int) < (ds.length : Int)) = false := by rw [hpre]; exact lt_end _
    obtain ⟨rfl, rfl⟩ := hN (by rw [he]; rfl)
    refine loopN_k fun K1 hK1 => ?_
    unfold ac27_l3
    (repeat' (first | ((with_reducible first | refine aops_cons' fun C hC => ?_ | refine aopsD_cons' fun C hC => ?_ | intro C hC); simp only [go_sem, hlt]; ((with_reducible first | refine finA hC ?_ | refine finD hC ?_); clear hC C)) | (with_reducible first | refine awp_seq_k fun K hK => ?_ | refine awp_reg_k fun K hK => ?_ | refine awp_dreg_k fun K hK => ?_ | (refine aops_nil ?_; refine hK _ _ ?_; try clear hK K) | (refine aopsD_nil ?_; refine hK _ _ _ ?_ ?_; (focus kernel_rfl); try clear hK K) | (refine thn_normal ?_; refine hK _ _ ?_; try clear hK K) | refine catch_normal ?_ | refine awp_skip_k ?_ | refine awp_ret_k ?_ | refine awp_exit_k ?_ | refine awp_block_k ?_ | (refine thn_exit ?_; try clear hK K) | (refine thn_ret ?_; try clear hK K) | refine catch_ret ?_ | refine catch_exit ?_ | (refine catch_other ?_ ?_; focus decide)) | ((with_reducible first | apply aops_guard' | apply aopsD_guard' | apply awp_cond_g); focus (simp only [go_sem, hlt]; exact rfl)) | (with_reducible first | refine gk_tt ?_ | refine gk_ff ?_ | refine ck_t ?_ | refine ck_f ?_) | ((with_reducible first | refine gk_tf ?_ | refine gk_ft ?_ | refine gk_u ?_ | refine gk_u' ?_); first | (intro _ e; (first | rw [put_some] at e | rw [put_none] at e); subst e) | (intro _ _ e e'; (first | rw [put_some] at e | rw [put_none] at e); subst e; subst e'))))
    (refine retP_ret (List.range 40) rfl ?_; (try simp only [zP, Prf.enc, encL, encPf, zT, if_true, if_false, Bool.false_eq_true, Bool.not_true, Bool.not_false]); exact vwA)
  | cons d rest ih =>
    intro pre hpre he
    have hlt : decide ((pre.length : Int) < (ds.length : Int)) = true := by rw [← hpre]; exact lt_app _ _ _
    have hat : (encDc ds)[pre.length]? = some d.enc := by rw [← hpre]; exact encDc_at _ _ _
    have hw := wrapS (n := pre.length) (by have := congrArg List.length hpre; simp at this; omega)
    have hd : d ∈ ds := by rw [← hpre]; simp
    have hdi : ds[pre.length]? = some d := by rw [← hpre]; simp
    have hms := ms_ok t d.t d.ps (hds d hd)
    rw [eq_enc t, eq_enc d.t] at hms
    simp only [mImp] at he
    refine loopN_k fun K1 hK1 => ?_
    unfold ac27_l3
    cases htr : (d.tr == tr) with
    | false =>
      have hok : okD t tr d = false := by unfold okD; rw [htr]; rfl
      rw [hok, if_neg (by simp)] at he
      (repeat' (first | ((with_reducible first | refine aops_cons' fun C hC => ?_ | refine aopsD_cons' fun C hC => ?_ | intro C hC); simp only [go_sem, hlt, hat, pcells_dc, bne, htr]; ((with_reducible first | refine finA hC ?_ | refine finD hC ?_); clear hC C)) | (with_reducible first | refine awp_seq_k fun K hK => ?_ | refine awp_reg_k fun K hK => ?_ | refine awp_dreg_k fun K hK => ?_ | (refine aops_nil ?_; refine hK _ _ ?_; try clear hK K) | (refine aopsD_nil ?_; refine hK _ _ _ ?_ ?_; (focus kernel_rfl); try clear hK K) | (refine thn_normal ?_; refine hK _ _ ?_; try clear hK K) | refine catch_normal ?_ | refine awp_skip_k ?_ | refine awp_ret_k ?_ | refine awp_exit_k ?_ | refine awp_block_k ?_ | (refine thn_exit ?_; try clear hK K) | (refine thn_ret ?_; try clear hK K) | refine catch_ret ?_ | refine catch_exit ?_ | (refine catch_other ?_ ?_; focus decide)) | ((with_reducible first | apply aops_guard' | apply aopsD_guard' | apply awp_cond_g); focus (simp only [go_sem, hlt, hat, pcells_dc, bne, htr]; exact rfl)) | (with_reducible first | refine gk_tt ?_ | refine gk_ff ?_ | refine ck_t ?_ | refine ck_f ?_) | ((with_reducible first | refine gk_tf ?_ | refine gk_ft ?_ | refine gk_u ?_ | refine gk_u' ?_); first | (intro _ e; (first | rw [put_some] at e | rw [put_none] at e); subst e) | (intro _ _ e e'; (first | rw [put_some] at e | rw [put_none] at e); subst e; subst e'))))
      refine thn_normal ?_
      refine hK1 _ _ _ _ _ (LeB [0, 1, 2] (by refine ⟨?_, ?_, ?_⟩ <;> simp only [leFr, leFb, leHp, V.ren, V.renL, V.bd, V.bdL, allL, lt, Go.Ab.get, hget, List.map_cons, List.map_nil, List.length_cons, List.length_nil, List.length_append, List.getElem?_cons_zero, List.getElem?_cons_succ, List.getElem?_nil, Option.join_some, Option.join_none, List.getD_cons_zero, List.getD_cons_succ, List.getD_nil, Nat.reduceAdd, Nat.reduceLT, Nat.reduceEqDiff, Nat.zero_add, reduceIte, if_true, if_false, and_true, true_and, renL_vcells, allL_vcells, renL_pv, leBlk_some, eq_self, true_or, or_true, reduceCtorEq, false_or, hw, List.length_append, allL])) (ih (pre ++ [d]) (by simp [hpre]) (by simpa using he))
    | true =>
      have hok := okD_allO (t := t) htr
      (repeat' (first | ((first | (with_reducible refine aops_call fun C hC => ?_) | (with_reducible refine aopsD_call fun C hC => ?_) | ((with_reducible intro C hC); (with_reducible refine ax_call_mp ?_))); (first | (simp only [go_sem, hlt, hat, pcells_dc, bne, htr, encI_len]; (first | ((with_reducible apply ACall.pure0 [] (hms)); (focus (exact vwA)))))); (simp only [PV.scal, PV.scalL, if_true, Bool.and_true, Bool.and_false, Bool.false_and, Bool.true_and, frz, List.map_nil, Bool.false_eq_true, if_false, ite_self, hlt, hat, pcells_dc, bne, htr, encI_len]); ((with_reducible first | refine finA hC ?_ | refine finD hC ?_); clear hC C)) | ((with_reducible first | refine aops_cons' fun C hC => ?_ | refine aopsD_cons' fun C hC => ?_ | intro C hC); simp only [go_sem, hlt, hat, pcells_dc, bne, htr, encI_len]; ((with_reducible first | refine finA hC ?_ | refine finD hC ?_); clear hC C)) | (with_reducible first | refine awp_seq_k fun K hK => ?_ | refine awp_reg_k fun K hK => ?_ | refine awp_dreg_k fun K hK => ?_ | (refine aops_nil ?_; refine hK _ _ ?_; try clear hK K) | (refine aopsD_nil ?_; refine hK _ _ _ ?_ ?_; (focus kernel_rfl); try clear hK K) | (refine thn_normal ?_; refine hK _ _ ?_; try clear hK K) | refine catch_normal ?_ | refine awp_skip_k ?_ | refine awp_ret_k ?_ | refine awp_exit_k ?_ | refine awp_block_k ?_ | (refine thn_exit ?_; try clear hK K) | (refine thn_ret ?_; try clear hK K) | refine catch_ret ?_ | refine catch_exit ?_ | (refine catch_other ?_ ?_; focus decide)) | ((with_reducible first | apply aops_guard' | apply aopsD_guard' | apply awp_cond_g); focus (simp only [go_sem, hlt, hat, pcells_dc, bne, htr, encI_len]; exact rfl)) | (with_reducible first | refine gk_tt ?_ | refine gk_ff ?_ | refine ck_t ?_ | refine ck_f ?_) | ((with_reducible first | refine gk_tf ?_ | refine gk_ft ?_ | refine gk_u ?_ | refine gk_u' ?_); first | (intro _ e; (first | rw [put_some] at e | rw [put_none] at e); subst e) | (intro _ _ e e'; (first | rw [put_some] at e | rw [put_none] at e); subst e; subst e'))))
      refine awp_loop_k _ (LeB [0, 1, 2, 3] (by refine ⟨?_, ?_, ?_⟩ <;> simp only [leFr, leFb, leHp, V.ren, V.renL, V.bd, V.bdL, allL, lt, Go.Ab.get, hget, List.map_cons, List.map_nil, List.length_cons, List.length_nil, List.length_append, List.getElem?_cons_zero, List.getElem?_cons_succ, List.getElem?_nil, Option.join_some, Option.join_none, List.getD_cons_zero, List.getD_cons_succ, List.getD_nil, Nat.reduceAdd, Nat.reduceLT, Nat.reduceEqDiff, Nat.zero_add, reduceIte, if_true, if_false, and_true, true_and, renL_vcells, allL_vcells, renL_pv, leBlk_some, eq_self, true_or, or_true, reduceCtorEq, false_or, c0, bt, bz, bd, Z8, allL])) (sp_l1 (d := d) (t := t) (tr := tr) (ds := ds) (az := az) (i := pre.length) (n := n + 1) (xs := (matchR d.ps t d.t).2) (hbs d hd).2 (b0 := (matchR d.ps t d.t).1) (fun x1 x2 x3 x4 => ?_) d.ps [] _ rfl rfl)
      rw [← hok]
      simp only [bt, bz, bd, Z8]
      cases ho : okD t tr d with
      | false =>
        rw [ho, if_neg (by simp)] at he
        (repeat' (first | ((with_reducible first | refine aops_cons' fun C hC => ?_ | refine aopsD_cons' fun C hC => ?_ | intro C hC); simp only [go_sem]; ((with_reducible first | refine finA hC ?_ | refine finD hC ?_); clear hC C)) | (with_reducible first | refine awp_seq_k fun K hK => ?_ | refine awp_reg_k fun K hK => ?_ | refine awp_dreg_k fun K hK => ?_ | (refine aops_nil ?_; refine hK _ _ ?_; try clear hK K) | (refine aopsD_nil ?_; refine hK _ _ _ ?_ ?_; (focus kernel_rfl); try clear hK K) | (refine thn_normal ?_; refine hK _ _ ?_; try clear hK K) | refine catch_normal ?_ | refine awp_skip_k ?_ | refine awp_ret_k ?_ | refine awp_exit_k ?_ | refine awp_block_k ?_ | (refine thn_exit ?_; try clear hK K) | (refine thn_ret ?_; try clear hK K) | refine catch_ret ?_ | refine catch_exit ?_ | (refine catch_other ?_ ?_; focus decide)) | ((with_reducible first | apply aops_guard' | apply aopsD_guard' | apply awp_cond_g); focus (simp only [go_sem]; exact rfl)) | (with_reducible first | refine gk_tt ?_ | refine gk_ff ?_ | refine ck_t ?_ | refine ck_f ?_) | ((with_reducible first | refine gk_tf ?_ | refine gk_ft ?_ | refine gk_u ?_ | refine gk_u' ?_); first | (intro _ e; (first | rw [put_some] at e | rw [put_none] at e); subst e) | (intro _ _ e e'; (first | rw [put_some] at e | rw [put_none] at e); subst e; subst e'))))
        refine thn_normal ?_
        refine hK1 _ _ _ _ _ (LeB [0, 1, 2] (by refine ⟨?_, ?_, ?_⟩ <;> simp only [leFr, leFb, leHp, V.ren, V.renL, V.bd, V.bdL, allL, lt, Go.Ab.get, hget, List.map_cons, List.map_nil, List.length_cons, List.length_nil, List.length_append, List.getElem?_cons_zero, List.getElem?_cons_succ, List.getElem?_nil, Option.join_some, Option.join_none, List.getD_cons_zero, List.getD_cons_succ, List.getD_nil, Nat.reduceAdd, Nat.reduceLT, Nat.reduceEqDiff, Nat.zero_add, reduceIte, if_true, if_false, and_true, true_and, renL_vcells, allL_vcells, renL_pv, leBlk_some, eq_self, true_or, or_true, reduceCtorEq, false_or, hw, List.length_append, allL])) (ih (pre ++ [d]) (by simp [hpre]) (by simpa using he))
      | true =>
        rw [ho, if_pos rfl] at he
        have hr := hS _ _ _ he hdi
        unfold solD at hr
        cases h4 : decide ((d.bs.length : Int) > 4) with
        | true =>
          rw [h4, if_pos rfl] at hr
          simp only [solV, PV.tup.injEq, List.cons.injEq, and_true] at hr
          obtain ⟨rfl, rfl⟩ := hr
          (repeat' (first | ((with_reducible first | refine aops_cons' fun C hC => ?_ | refine aopsD_cons' fun C hC => ?_ | intro C hC); simp only [go_sem, encTb_len, h4]; ((with_reducible first | refine finA hC ?_ | refine finD hC ?_); clear hC C)) | (with_reducible first | refine awp_seq_k fun K hK => ?_ | refine awp_reg_k fun K hK => ?_ | refine awp_dreg_k fun K hK => ?_ | (refine aops_nil ?_; refine hK _ _ ?_; try clear hK K) | (refine aopsD_nil ?_; refine hK _ _ _ ?_ ?_; (focus kernel_rfl); try clear hK K) | (refine thn_normal ?_; refine hK _ _ ?_; try clear hK K) | refine catch_normal ?_ | refine awp_skip_k ?_ | refine awp_ret_k ?_ | refine awp_exit_k ?_ | refine awp_block_k ?_ | (refine thn_exit ?_; try clear hK K) | (refine thn_ret ?_; try clear hK K) | refine catch_ret ?_ | refine catch_exit ?_ | (refine catch_other ?_ ?_; focus decide)) | ((with_reducible first | apply aops_guard' | apply aopsD_guard' | apply awp_cond_g); focus (simp only [go_sem, encTb_len, h4]; exact rfl)) | (with_reducible first | refine gk_tt ?_ | refine gk_ff ?_ | refine ck_t ?_ | refine ck_f ?_) | ((with_reducible first | refine gk_tf ?_ | refine gk_ft ?_ | refine gk_u ?_ | refine gk_u' ?_); first | (intro _ e; (first | rw [put_some] at e | rw [put_none] at e); subst e) | (intro _ _ e e'; (first | rw [put_some] at e | rw [put_none] at e); subst e; subst e'))))
          (refine retP_ret (List.range 40) rfl ?_; (try simp only [zP, Prf.enc, encL, encPf, zT, if_true, if_false, Bool.false_eq_true, Bool.not_true, Bool.not_false]); exact vwA)
        | false =>
          rw [h4, if_neg (by simp)] at hr
          (repeat' (first | ((with_reducible first | refine aops_cons' fun C hC => ?_ | refine aopsD_cons' fun C hC => ?_ | intro C hC); simp only [go_sem, encTb_len, h4]; ((with_reducible first | refine finA hC ?_ | refine finD hC ?_); clear hC C)) | (with_reducible first | refine awp_seq_k fun K hK => ?_ | refine awp_reg_k fun K hK => ?_ | refine awp_dreg_k fun K hK => ?_ | (refine aops_nil ?_; refine hK _ _ ?_; try clear hK K) | (refine aopsD_nil ?_; refine hK _ _ _ ?_ ?_; (focus kernel_rfl); try clear hK K) | (refine thn_normal ?_; refine hK _ _ ?_; try clear hK K) | refine catch_normal ?_ | refine awp_skip_k ?_ | refine awp_ret_k ?_ | refine awp_exit_k ?_ | refine awp_block_k ?_ | (refine thn_exit ?_; try clear hK K) | (refine thn_ret ?_; try clear hK K) | refine catch_ret ?_ | refine catch_exit ?_ | (refine catch_other ?_ ?_; focus decide)) | ((with_reducible first | apply aops_guard' | apply aopsD_guard' | apply awp_cond_g); focus (simp only [go_sem, encTb_len, h4]; exact rfl)) | (with_reducible first | refine gk_tt ?_ | refine gk_ff ?_ | refine ck_t ?_ | refine ck_f ?_) | ((with_reducible first | refine gk_tf ?_ | refine gk_ft ?_ | refine gk_u ?_ | refine gk_u' ?_); first | (intro _ e; (first | rw [put_some] at e | rw [put_none] at e); subst e) | (intro _ _ e e'; (first | rw [put_some] at e | rw [put_none] at e); subst e; subst e'))))
          have hmt := (match_app (okD_spec ho).2).1
          refine awp_loop_k _ (LeB [0, 1, 2, 3, 4] (by refine ⟨?_, ?_, ?_⟩ <;> simp only [leFr, leFb, leHp, V.ren, V.renL, V.bd, V.bdL, allL, lt, Go.Ab.get, hget, List.map_cons, List.map_nil, List.length_cons, List.length_nil, List.length_append, List.getElem?_cons_zero, List.getElem?_cons_succ, List.getElem?_nil, Option.join_some, Option.join_none, List.getD_cons_zero, List.getD_cons_succ, List.getD_nil, Nat.reduceAdd, Nat.reduceLT, Nat.reduceEqDiff, Nat.zero_add, reduceIte, if_true, if_false, and_true, true_and, renL_vcells, allL_vcells, renL_pv, leBlk_some, eq_self, true_or, or_true, reduceCtorEq, false_or, c0, bt, bz, bd, Z8, allL])) (sp_l2 (d := d) (t := t) (tr := tr) (ds := ds) (az := az) (i := pre.length) (n := n) (xs := (matchR d.ps t d.t).2) (r0 := r0) (r1 := r1) hn (hbs d hd).1 (by omega) ihn (fun hx => ?_) (fun qs hx => ?_) hK (fun fr H h => ?_))
          · rw [hx] at hr
            simp only [solV, PV.tup.injEq, List.cons.injEq, and_true] at hr
            exact ⟨hr.1.symm, hr.2.symm⟩
          · rw [hx] at hr
            simp only [solV, PV.tup.injEq, List.cons.injEq, and_true] at hr
            exact ⟨hr.1.symm, hr.2.symm⟩
          · (repeat' (first | ((with_reducible first | refine aops_cons' fun C hC => ?_ | refine aopsD_cons' fun C hC => ?_ | intro C hC); simp only [go_sem]; ((with_reducible first | refine finA hC ?_ | refine finD hC ?_); clear hC C)) | (with_reducible first | refine awp_seq_k fun K hK => ?_ | refine awp_reg_k fun K hK => ?_ | refine awp_dreg_k fun K hK => ?_ | (refine aops_nil ?_; refine hK _ _ ?_; try clear hK K) | (refine aopsD_nil ?_; refine hK _ _ _ ?_ ?_; (focus kernel_rfl); try clear hK K) | (refine thn_normal ?_; refine hK _ _ ?_; try clear hK K) | refine catch_normal ?_ | refine awp_skip_k ?_ | refine awp_ret_k ?_ | refine awp_exit_k ?_ | refine awp_block_k ?_ | (refine thn_exit ?_; try clear hK K) | (refine thn_ret ?_; try clear hK K) | refine catch_ret ?_ | refine catch_exit ?_ | (refine catch_other ?_ ?_; focus decide)) | ((with_reducible first | apply aops_guard' | apply aopsD_guard' | apply awp_cond_g); focus (simp only [go_sem]; exact rfl)) | (with_reducible first | refine gk_tt ?_ | refine gk_ff ?_ | refine ck_t ?_ | refine ck_f ?_) | ((with_reducible first | refine gk_tf ?_ | refine gk_ft ?_ | refine gk_u ?_ | refine gk_u' ?_); first | (intro _ e; (first | rw [put_some] at e | rw [put_none] at e); subst e) | (intro _ _ e e'; (first | rw [put_some] at e | rw [put_none] at e); subst e; subst e'))))
            exact h
set_option maxHeartbeats 8000000 in
theorem sp_ok (ds : List Dc) (az : List Tb) (hds : ∀ d ∈ ds, nds d.t ≤ 1099511627776) : ∀ (n : Nat), n ≤ 1000 → ∀ (t : Ty) (tr : Int), PCall Try.prog 27 [.list 7 (encDc ds), .list 4 (encTb az), t.enc, ii tr, ii n] (solV (sol ds az n t tr)) := by
  intro n
  induction n with
  | zero =>
    intro hn t tr
    refine PCall.intro (ps := [zP.enc, bb false]) fn27 (by simp) ?_
    unfold ac27
    simp only [argFr]
    (repeat' (first | ((with_reducible first | refine aops_cons' fun C hC => ?_ | refine aopsD_cons' fun C hC => ?_ | intro C hC); simp only [go_sem, cells_enc, Ty.tc, c0]; ((with_reducible first | refine finA hC ?_ | refine finD hC ?_); clear hC C)) | (with_reducible first | refine awp_seq_k fun K hK => ?_ | refine awp_reg_k fun K hK => ?_ | refine awp_dreg_k fun K hK => ?_ | (refine aops_nil ?_; refine hK _ _ ?_; try clear hK K) | (refine aopsD_nil ?_; refine hK _ _ _ ?_ ?_; (focus kernel_rfl); try clear hK K) | (refine thn_normal ?_; refine hK _ _ ?_; try clear hK K) | refine catch_normal ?_ | refine awp_skip_k ?_ | refine awp_ret_k ?_ | refine awp_exit_k ?_ | refine awp_block_k ?_ | (refine thn_exit ?_; try clear hK K) | (refine thn_ret ?_; try clear hK K) | refine catch_ret ?_ | refine catch_exit ?_ | (refine catch_other ?_ ?_; focus decide)) | ((with_reducible first | apply aops_guard' | apply aopsD_guard' | apply awp_cond_g); focus (simp only [go_sem, cells_enc, Ty.tc, c0]; exact rfl)) | (with_reducible first | refine gk_tt ?_ | refine gk_ff ?_ | refine ck_t ?_ | refine ck_f ?_) | ((with_reducible first | refine gk_tf ?_ | refine gk_ft ?_ | refine gk_u ?_ | refine gk_u' ?_); first | (intro _ e; (first | rw [put_some] at e | rw [put_none] at e); subst e) | (intro _ _ e e'; (first | rw [put_some] at e | rw [put_none] at e); subst e; subst e'))))
    (refine retP_ret (List.range 40) rfl ?_; (try simp only [zP, Prf.enc, encL, encPf, zT, if_true, if_false, Bool.false_eq_true, Bool.not_true, Bool.not_false]); exact vwA)
  | succ n ihn =>
    intro hn t tr
    have ihn := ihn (by omega)
    have hz : decide (((n + 1 : Nat) : Int) < 1) = false := decide_eq_false (by omega)
    have hgen : ∀ r0 r1, solV (sol ds az (n + 1) t tr) = .tup [r0, r1] → PCall Try.prog 27 [.list 7 (encDc ds), .list 4 (encTb az), t.enc, ii tr, ii (n + 1 : Nat)] (.tup [r0, r1]) := by
      intro r0 r1 hR
      have hN : sol ds az (n + 1) t tr = none → r0 = zP.enc ∧ r1 = bb false := fun h => by
        rw [h] at hR; simp only [solV, PV.tup.injEq, List.cons.injEq, and_true] at hR; exact ⟨hR.1.symm, hR.2.symm⟩
      refine PCall.intro' (ps := [r0, r1]) fn27 (by simp) fun hok => ?_
      have hdl : ds.length ≤ 1099511627776 := by
        simp only [PV.okL, PV.ok, encDc_len, big] at hok; exact hok.1.1
      have hal : az.length ≤ 1099511627776 := by
        simp only [PV.okL, PV.ok, encTb_len, big] at hok; exact hok.2.1.1
      have hbs : ∀ d ∈ ds, d.bs.length ≤ 1099511627776 ∧ d.ps.length ≤ 1099511627776 := by
        intro d hd
        simp only [PV.okL, PV.ok, big] at hok
        have : ∀ {l : List Dc}, PV.okL (encDc l) → ∀ d ∈ l, d.bs.length ≤ 1099511627776 ∧ d.ps.length ≤ 1099511627776 := by
          intro l
          induction l with
          | nil => intro _ d hd; cases hd
          | cons x l ih =>
            intro h d hd
            simp only [encDc, List.map_cons, PV.okL] at h
            rcases List.mem_cons.1 hd with rfl | hd
            · have := h.1
              simp only [Dc.enc, PV.ok, PV.okL, encTb_len, encI_len, big] at this
              exact ⟨this.2.2.2.2.2.1.1, this.1.1⟩
            · exact ih h.2 d hd
        exact this hok.1.2 d hd
      clear hok
      unfold ac27
      simp only [argFr]
      cases h1 : decide (tr < 0) with
      | true =>
        obtain ⟨rfl, rfl⟩ := hN (by cases h0 : (t.kd == 0) <;> simp only [sol, h0, h1, if_true, Bool.false_eq_true, if_false])
        (repeat' (first | ((with_reducible first | refine aops_cons' fun C hC => ?_ | refine aopsD_cons' fun C hC => ?_ | intro C hC); simp only [go_sem, cells_enc, Ty.tc, hz, h1]; ((with_reducible first | refine finA hC ?_ | refine finD hC ?_); clear hC C)) | (with_reducible first | refine awp_seq_k fun K hK => ?_ | refine awp_reg_k fun K hK => ?_ | refine awp_dreg_k fun K hK => ?_ | (refine aops_nil ?_; refine hK _ _ ?_; try clear hK K) | (refine aopsD_nil ?_; refine hK _ _ _ ?_ ?_; (focus kernel_rfl); try clear hK K) | (refine thn_normal ?_; refine hK _ _ ?_; try clear hK K) | refine catch_normal ?_ | refine awp_skip_k ?_ | refine awp_ret_k ?_ | refine awp_exit_k ?_ | refine awp_block_k ?_ | (refine thn_exit ?_; try clear hK K) | (refine thn_ret ?_; try clear hK K) | refine catch_ret ?_ | refine catch_exit ?_ | (refine catch_other ?_ ?_; focus decide)) | ((with_reducible first | apply aops_guard' | apply aopsD_guard' | apply awp_cond_g); focus (simp only [go_sem, cells_enc, Ty.tc, hz, h1]; exact rfl)) | (with_reducible first | refine gk_tt ?_ | refine gk_ff ?_ | refine ck_t ?_ | refine ck_f ?_) | ((with_reducible first | refine gk_tf ?_ | refine gk_ft ?_ | refine gk_u ?_ | refine gk_u' ?_); first | (intro _ e; (first | rw [put_some] at e | rw [put_none] at e); subst e) | (intro _ _ e e'; (first | rw [put_some] at e | rw [put_none] at e); subst e; subst e'))))
        (refine retP_ret (List.range 40) rfl ?_; (try simp only [zP, Prf.enc, encL, encPf, zT, if_true, if_false, Bool.false_eq_true, Bool.not_true, Bool.not_false]); exact vwA)
      | false =>
        cases h0 : (t.kd == 0) with
        | true =>
          obtain ⟨rfl, rfl⟩ := hN (by simp [sol, h0])
          (repeat' (first | ((with_reducible first | refine aops_cons' fun C hC => ?_ | refine aopsD_cons' fun C hC => ?_ | intro C hC); simp only [go_sem, cells_enc, Ty.tc, hz, h0, h1]; ((with_reducible first | refine finA hC ?_ | refine finD hC ?_); clear hC C)) | (with_reducible first | refine awp_seq_k fun K hK => ?_ | refine awp_reg_k fun K hK => ?_ | refine awp_dreg_k fun K hK => ?_ | (refine aops_nil ?_; refine hK _ _ ?_; try clear hK K) | (refine aopsD_nil ?_; refine hK _ _ _ ?_ ?_; (focus kernel_rfl); try clear hK K) | (refine thn_normal ?_; refine hK _ _ ?_; try clear hK K) | refine catch_normal ?_ | refine awp_skip_k ?_ | refine awp_ret_k ?_ | refine awp_exit_k ?_ | refine awp_block_k ?_ | (refine thn_exit ?_; try clear hK K) | (refine thn_ret ?_; try clear hK K) | refine catch_ret ?_ | refine catch_exit ?_ | (refine catch_other ?_ ?_; focus decide)) | ((with_reducible first | apply aops_guard' | apply aopsD_guard' | apply awp_cond_g); focus (simp only [go_sem, cells_enc, Ty.tc, hz, h0, h1]; exact rfl)) | (with_reducible first | refine gk_tt ?_ | refine gk_ff ?_ | refine ck_t ?_ | refine ck_f ?_) | ((with_reducible first | refine gk_tf ?_ | refine gk_ft ?_ | refine gk_u ?_ | refine gk_u' ?_); first | (intro _ e; (first | rw [put_some] at e | rw [put_none] at e); subst e) | (intro _ _ e e'; (first | rw [put_some] at e | rw [put_none] at e); subst e; subst e'))))
          (refine retP_ret (List.range 40) rfl ?_; (try simp only [zP, Prf.enc, encL, encPf, zT, if_true, if_false, Bool.false_eq_true, Bool.not_true, Bool.not_false]); exact vwA)
        | false =>
          have hsol : sol ds az (n + 1) t tr = if decide (bdF az t tr ≥ 0) then some (.mk t tr (-1) (bdF az t tr) [] []) else
              match mImp t tr ds 0 with
              | none => none
              | some (i, xs) => match ds[i]? with
                | none => none
                | some d => solD ds az n t tr i xs d := by
            simp only [sol, h0, h1, Bool.false_eq_true, if_false]
            rfl
          rw [hsol] at hR
          clear hN
          (repeat' (first | ((with_reducible first | refine aops_cons' fun C hC => ?_ | refine aopsD_cons' fun C hC => ?_ | intro C hC); simp only [go_sem, cells_enc, Ty.tc, hz, h0, h1, encTb_len]; ((with_reducible first | refine finA hC ?_ | refine finD hC ?_); clear hC C)) | (with_reducible first | refine awp_seq_k fun K hK => ?_ | refine awp_reg_k fun K hK => ?_ | refine awp_dreg_k fun K hK => ?_ | (refine aops_nil ?_; refine hK _ _ ?_; try clear hK K) | (refine aopsD_nil ?_; refine hK _ _ _ ?_ ?_; (focus kernel_rfl); try clear hK K) | (refine thn_normal ?_; refine hK _ _ ?_; try clear hK K) | refine catch_normal ?_ | refine awp_skip_k ?_ | refine awp_ret_k ?_ | refine awp_exit_k ?_ | refine awp_block_k ?_ | (refine thn_exit ?_; try clear hK K) | (refine thn_ret ?_; try clear hK K) | refine catch_ret ?_ | refine catch_exit ?_ | (refine catch_other ?_ ?_; focus decide)) | ((with_reducible first | apply aops_guard' | apply aopsD_guard' | apply awp_cond_g); focus (simp only [go_sem, cells_enc, Ty.tc, hz, h0, h1, encTb_len]; exact rfl)) | (with_reducible first | refine gk_tt ?_ | refine gk_ff ?_ | refine ck_t ?_ | refine ck_f ?_) | ((with_reducible first | refine gk_tf ?_ | refine gk_ft ?_ | refine gk_u ?_ | refine gk_u' ?_); first | (intro _ e; (first | rw [put_some] at e | rw [put_none] at e); subst e) | (intro _ _ e e'; (first | rw [put_some] at e | rw [put_none] at e); subst e; subst e'))))
          have rows : ∀ (rest pre : List Tb), pre ++ rest = az → bdF az t tr = idxF (fun b : Tb => if b.tr == tr then eqT b.t t else false) rest pre.length → loopN (awp Try.prog ac27_l0) (catch_ 0 (thn K (retP [RV.cell 10 8 true, RV.tmp 11] [r0, r1]))) (rest.length + 1)
              [(41, .pv (ii pre.length)), (40, .pv (ii az.length)), (39, .pv (.list 4 (encTb az))), (12, .ptr 2 0 0), (10, .ptr 1 0 0), (7, .ptr 0 0 0), (4, .pv (ii (n + 1 : Nat))), (3, .pv (ii tr)), (1, .pv (.list 4 (encTb az))), (0, .pv (.list 7 (encDc ds)))]
              [some ⟨false, 26, 3, [[.pv (ii t.kd), .pv (ii t.id), .pv (.list 3 (encL t.args))]], none⟩, some ⟨false, 30, 8, [[.pv (ii 0), .pv (ii 0), .pv (.lit (.slice none 0 0)), .pv (ii 0), .pv (ii 0), .pv (ii 0), .pv (.lit (.slice none 0 0)), .pv (.lit (.slice none 0 0))]], none⟩, some ⟨false, 30, 8, [[.pv (ii 0), .pv (ii 0), .pv (.lit (.slice none 0 0)), .pv (ii 0), .pv (ii 0), .pv (ii 0), .pv (.lit (.slice none 0 0)), .pv (.lit (.slice none 0 0))]], none⟩] := by
            intro rest
            induction rest with
            | nil =>
              intro pre hpre he
              have hpre : pre = az := by simpa using hpre
              have hlt : decide ((pre.length : Int) < (az.length : Int)) = false := by rw [hpre]; exact lt_end _
              have hm1 : decide (bdF az t tr ≥ 0) = false := by rw [he]; rfl
              rw [hm1, if_neg (by simp)] at hR
              refine loopN_k fun K1 hK1 => ?_
              unfold ac27_l0
              (repeat' (first | ((with_reducible first | refine aops_cons' fun C hC => ?_ | refine aopsD_cons' fun C hC => ?_ | intro C hC); simp only [go_sem, hlt, encDc_len]; ((with_reducible first | refine finA hC ?_ | refine finD hC ?_); clear hC C)) | (with_reducible first | refine awp_seq_k fun K hK => ?_ | refine awp_reg_k fun K hK => ?_ | refine awp_dreg_k fun K hK => ?_ | (refine aops_nil ?_; refine hK _ _ ?_; try clear hK K) | (refine aopsD_nil ?_; refine hK _ _ _ ?_ ?_; (focus kernel_rfl); try clear hK K) | (refine thn_normal ?_; refine hK _ _ ?_; try clear hK K) | refine catch_normal ?_ | refine awp_skip_k ?_ | refine awp_ret_k ?_ | refine awp_exit_k ?_ | refine awp_block_k ?_ | (refine thn_exit ?_; try clear hK K) | (refine thn_ret ?_; try clear hK K) | refine catch_ret ?_ | refine catch_exit ?_ | (refine catch_other ?_ ?_; focus decide)) | ((with_reducible first | apply aops_guard' | apply aopsD_guard' | apply awp_cond_g); focus (simp only [go_sem, hlt, encDc_len]; exact rfl)) | (with_reducible first | refine gk_tt ?_ | refine gk_ff ?_ | refine ck_t ?_ | refine ck_f ?_) | ((with_reducible first | refine gk_tf ?_ | refine gk_ft ?_ | refine gk_u ?_ | refine gk_u' ?_); first | (intro _ e; (first | rw [put_some] at e | rw [put_none] at e); subst e) | (intro _ _ e e'; (first | rw [put_some] at e | rw [put_none] at e); subst e; subst e'))))
              refine awp_loop_k _ (LeB [0, 1, 2] (by refine ⟨?_, ?_, ?_⟩ <;> simp only [leFr, leFb, leHp, V.ren, V.renL, V.bd, V.bdL, allL, lt, Go.Ab.get, hget, List.map_cons, List.map_nil, List.length_cons, List.length_nil, List.length_append, List.getElem?_cons_zero, List.getElem?_cons_succ, List.getElem?_nil, Option.join_some, Option.join_none, List.getD_cons_zero, List.getD_cons_succ, List.getD_nil, Nat.reduceAdd, Nat.reduceLT, Nat.reduceEqDiff, Nat.zero_add, reduceIte, if_true, if_false, and_true, true_and, renL_vcells, allL_vcells, renL_pv, leBlk_some, eq_self, true_or, or_true, reduceCtorEq, false_or, c0, allL])) (sp_l3 (az := az) (t := t) (tr := tr) (n := n) (r0 := r0) (r1 := r1) (by omega) hdl hbs hds ihn (fun hx => ?_) (fun i xs d hx hd => ?_) hK ds [] rfl rfl)
              · rw [hx] at hR
                simp only [solV, PV.tup.injEq, List.cons.injEq, and_true] at hR
                exact ⟨hR.1.symm, hR.2.symm⟩
              · rw [hx] at hR
                simp only at hR
                rw [hd] at hR
                exact hR
            | cons b rest ih =>
              intro pre hpre he
              have hlt : decide ((pre.length : Int) < (az.length : Int)) = true := by rw [← hpre]; exact lt_app _ _ _
              have hbt : (encTb az)[pre.length]? = some b.enc := by rw [← hpre]; exact encTb_at _ _ _
              have hw := wrapS (n := pre.length) (by have := congrArg List.length hpre; simp at this; omega)
              have hq := equal2_ok b.t t
              rw [eq_enc b.t, eq_enc t] at hq
              refine loopN_k fun K1 hK1 => ?_
              unfold ac27_l0
              cases hb : (b.tr == tr) with
              | false =>
                simp only [idxF, hb, Bool.false_eq_true, if_false] at he
                (repeat' (first | ((with_reducible first | refine aops_cons' fun C hC => ?_ | refine aopsD_cons' fun C hC => ?_ | intro C hC); simp only [go_sem, hlt, hbt, pcells_tb, hb]; ((with_reducible first | refine finA hC ?_ | refine finD hC ?_); clear hC C)) | (with_reducible first | refine awp_seq_k fun K hK => ?_ | refine awp_reg_k fun K hK => ?_ | refine awp_dreg_k fun K hK => ?_ | (refine aops_nil ?_; refine hK _ _ ?_; try clear hK K) | (refine aopsD_nil ?_; refine hK _ _ _ ?_ ?_; (focus kernel_rfl); try clear hK K) | (refine thn_normal ?_; refine hK _ _ ?_; try clear hK K) | refine catch_normal ?_ | refine awp_skip_k ?_ | refine awp_ret_k ?_ | refine awp_exit_k ?_ | refine awp_block_k ?_ | (refine thn_exit ?_; try clear hK K) | (refine thn_ret ?_; try clear hK K) | refine catch_ret ?_ | refine catch_exit ?_ | (refine catch_other ?_ ?_; focus decide)) | ((with_reducible first | apply aops_guard' | apply aopsD_guard' | apply awp_cond_g); focus (simp only [go_sem, hlt, hbt, pcells_tb, hb]; exact rfl)) | (with_reducible first | refine gk_tt ?_ | refine gk_ff ?_ | refine ck_t ?_ | refine ck_f ?_) | ((with_reducible first | refine gk_tf ?_ | refine gk_ft ?_ | refine gk_u ?_ | refine gk_u' ?_); first | (intro _ e; (first | rw [put_some] at e | rw [put_none] at e); subst e) | (intro _ _ e e'; (first | rw [put_some] at e | rw [put_none] at e); subst e; subst e'))))
                refine thn_normal ?_
                refine hK1 _ _ _ _ _ (LeB [0, 1, 2] (by refine ⟨?_, ?_, ?_⟩ <;> simp only [leFr, leFb, leHp, V.ren, V.renL, V.bd, V.bdL, allL, lt, Go.Ab.get, hget, List.map_cons, List.map_nil, List.length_cons, List.length_nil, List.length_append, List.getElem?_cons_zero, List.getElem?_cons_succ, List.getElem?_nil, Option.join_some, Option.join_none, List.getD_cons_zero, List.getD_cons_succ, List.getD_nil, Nat.reduceAdd, Nat.reduceLT, Nat.reduceEqDiff, Nat.zero_add, reduceIte, if_true, if_false, and_true, true_and, renL_vcells, allL_vcells, renL_pv, leBlk_some, eq_self, true_or, or_true, reduceCtorEq, false_or, hw, List.length_append, allL])) (ih (pre ++ [b]) (by simp [hpre]) (by simpa using he))
              | true =>
                cases hqb : eqT b.t t with
                | false =>
                  rw [hqb] at hq
                  simp only [idxF, hb, hqb, if_true, Bool.false_eq_true, if_false] at he
                  (repeat' (first | ((first | (with_reducible refine aops_call fun C hC => ?_) | (with_reducible refine aopsD_call fun C hC => ?_) | ((with_reducible intro C hC); (with_reducible refine ax_call_mp ?_))); (first | (simp only [go_sem, hlt, hbt, pcells_tb, hb]; (first | ((with_reducible apply ACall.pure0 [] (hq)); (focus (exact vwA)))))); (simp only [PV.scal, PV.scalL, if_true, Bool.and_true, Bool.and_false, Bool.false_and, Bool.true_and, frz, List.map_nil, Bool.false_eq_true, if_false, ite_self, hlt, hbt, pcells_tb, hb]); ((with_reducible first | refine finA hC ?_ | refine finD hC ?_); clear hC C)) | ((with_reducible first | refine aops_cons' fun C hC => ?_ | refine aopsD_cons' fun C hC => ?_ | intro C hC); simp only [go_sem, hlt, hbt, pcells_tb, hb]; ((with_reducible first | refine finA hC ?_ | refine finD hC ?_); clear hC C)) | (with_reducible first | refine awp_seq_k fun K hK => ?_ | refine awp_reg_k fun K hK => ?_ | refine awp_dreg_k fun K hK => ?_ | (refine aops_nil ?_; refine hK _ _ ?_; try clear hK K) | (refine aopsD_nil ?_; refine hK _ _ _ ?_ ?_; (focus kernel_rfl); try clear hK K) | (refine thn_normal ?_; refine hK _ _ ?_; try clear hK K) | refine catch_normal ?_ | refine awp_skip_k ?_ | refine awp_ret_k ?_ | refine awp_exit_k ?_ | refine awp_block_k ?_ | (refine thn_exit ?_; try clear hK K) | (refine thn_ret ?_; try clear hK K) | refine catch_ret ?_ | refine catch_exit ?_ | (refine catch_other ?_ ?_; focus decide)) | ((with_reducible first | apply aops_guard' | apply aopsD_guard' | apply awp_cond_g); focus (simp only [go_sem, hlt, hbt, pcells_tb, hb]; exact rfl)) | (with_reducible first | refine gk_tt ?_ | refine gk_ff ?_ | refine ck_t ?_ | refine ck_f ?_) | ((with_reducible first | refine gk_tf ?_ | refine gk_ft ?_ | refine gk_u ?_ | refine gk_u' ?_); first | (intro _ e; (first | rw [put_some] at e | rw [put_none] at e); subst e) | (intro _ _ e e'; (first | rw [put_some] at e | rw [put_none] at e); subst e; subst e'))))
                  refine thn_normal ?_
                  refine hK1 _ _ _ _ _ (LeB [0, 1, 2] (by refine ⟨?_, ?_, ?_⟩ <;> simp only [leFr, leFb, leHp, V.ren, V.renL, V.bd, V.bdL, allL, lt, Go.Ab.get, hget, List.map_cons, List.map_nil, List.length_cons, List.length_nil, List.length_append, List.getElem?_cons_zero, List.getElem?_cons_succ, List.getElem?_nil, Option.join_some, Option.join_none, List.getD_cons_zero, List.getD_cons_succ, List.getD_nil, Nat.reduceAdd, Nat.reduceLT, Nat.reduceEqDiff, Nat.zero_add, reduceIte, if_true, if_false, and_true, true_and, renL_vcells, allL_vcells, renL_pv, leBlk_some, eq_self, true_or, or_true, reduceCtorEq, false_or, hw, List.length_append, allL])) (ih (pre ++ [b]) (by simp [hpre]) (by simpa using he))
                | true =>
                  rw [hqb] at hq
                  simp only [idxF, hb, hqb, if_true] at he
                  have hge : decide (bdF az t tr ≥ 0) = true := by rw [he]; exact decide_eq_true (by omega)
                  rw [hge, if_pos rfl, he] at hR
                  simp only [solV, PV.tup.injEq, List.cons.injEq, and_true] at hR
                  obtain ⟨rfl, rfl⟩ := hR
                  (repeat' (first | ((first | (with_reducible refine aops_call fun C hC => ?_) | (with_reducible refine aopsD_call fun C hC => ?_) | ((with_reducible intro C hC); (with_reducible refine ax_call_mp ?_))); (first | (simp only [go_sem, hlt, hbt, pcells_tb, hb]; (first | ((with_reducible apply ACall.pure0 [] (hq)); (focus (exact vwA)))))); (simp only [PV.scal, PV.scalL, if_true, Bool.and_true, Bool.and_false, Bool.false_and, Bool.true_and, frz, List.map_nil, Bool.false_eq_true, if_false, ite_self, hlt, hbt, pcells_tb, hb]); ((with_reducible first | refine finA hC ?_ | refine finD hC ?_); clear hC C)) | ((with_reducible first | refine aops_cons' fun C hC => ?_ | refine aopsD_cons' fun C hC => ?_ | intro C hC); simp only [go_sem, hlt, hbt, pcells_tb, hb]; ((with_reducible first | refine finA hC ?_ | refine finD hC ?_); clear hC C)) | (with_reducible first | refine awp_seq_k fun K hK => ?_ | refine awp_reg_k fun K hK => ?_ | refine awp_dreg_k fun K hK => ?_ | (refine aops_nil ?_; refine hK _ _ ?_; try clear hK K) | (refine aopsD_nil ?_; refine hK _ _ _ ?_ ?_; (focus kernel_rfl); try clear hK K) | (refine thn_normal ?_; refine hK _ _ ?_; try clear hK K) | refine catch_normal ?_ | refine awp_skip_k ?_ | refine awp_ret_k ?_ | refine awp_exit_k ?_ | refine awp_block_k ?_ | (refine thn_exit ?_; try clear hK K) | (refine thn_ret ?_; try clear hK K) | refine catch_ret ?_ | refine catch_exit ?_ | (refine catch_other ?_ ?_; focus decide)) | ((with_reducible first | apply aops_guard' | apply aopsD_guard' | apply awp_cond_g); focus (simp only [go_sem, hlt, hbt, pcells_tb, hb]; exact rfl)) | (with_reducible first | refine gk_tt ?_ | refine gk_ff ?_ | refine ck_t ?_ | refine ck_f ?_) | ((with_reducible first | refine gk_tf ?_ | refine gk_ft ?_ | refine gk_u ?_ | refine gk_u' ?_); first | (intro _ e; (first | rw [put_some] at e | rw [put_none] at e); subst e) | (intro _ _ e e'; (first | rw [put_some] at e | rw [put_none] at e); subst e; subst e'))))
                  (refine retP_ret (List.range 40) rfl ?_; (try simp only [Prf.enc, encL, encPf, if_true, if_false, Bool.false_eq_true, Bool.not_true, Bool.not_false]); exact vwA)
          refine awp_loop_k _ (LeB [0, 1, 2] (by refine ⟨?_, ?_, ?_⟩ <;> simp only [leFr, leFb, leHp, V.ren, V.renL, V.bd, V.bdL, allL, lt, Go.Ab.get, hget, List.map_cons, List.map_nil, List.length_cons, List.length_nil, List.length_append, List.getElem?_cons_zero, List.getElem?_cons_succ, List.getElem?_nil, Option.join_some, Option.join_none, List.getD_cons_zero, List.getD_cons_succ, List.getD_nil, Nat.reduceAdd, Nat.reduceLT, Nat.reduceEqDiff, Nat.zero_add, reduceIte, if_true, if_false, and_true, true_and, renL_vcells, allL_vcells, renL_pv, leBlk_some, eq_self, true_or, or_true, reduceCtorEq, false_or, c0, allL])) (rows az [] rfl rfl)
    cases h : sol ds az (n + 1) t tr with
    | none => rw [h] at hgen; exact hgen _ _ rfl
    | some p => rw [h] at hgen; exact hgen _ _ rfl
end Go.Proofs.Ytbdoblgofddhdaa
