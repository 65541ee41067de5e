/- T15: joined from V12. -/
import Derived.Test.YtbdoblgofddhdaaFnT
import Derived.Test.YtbdoblgofddhdaaT14
/- Traits: the reference's search. -/
set_option maxRecDepth 10000
set_option linter.unusedSimpArgs false
set_option linter.unusedVariables false
namespace Go.Proofs.Ytbdoblgofddhdaa
open Go Go.Ab
def allO (t : Ty) : List Int → Bool → Bool
  | [], b => b
  | p :: ps, b => allO t ps (if b then occP p t else false)
theorem allO_eq (t : Ty) : ∀ (ps : List Int) (b : Bool), allO t ps b = if b then !(ps.any fun p => !occP p t) else false
  | [], b => by cases b <;> rfl
  | p :: ps, b => by
    simp only [allO, allO_eq t ps, List.any_cons]
    cases b <;> cases occP p t <;> simp
def Z8 : List V := [.pv (ii 0), .pv (ii 0), .pv (.lit (.slice none 0 0)), .pv (ii 0), .pv (ii 0), .pv (ii 0), .pv (.lit (.slice none 0 0)), .pv (.lit (.slice none 0 0))]
def bt (t : Ty) : Blk := ⟨false, 26, 3, [[.pv (ii t.kd), .pv (ii t.id), .pv (.list 3 (encL t.args))]], none⟩
def bz : Blk := ⟨false, 30, 8, [Z8], none⟩
def bd (d : Dc) : Blk := ⟨false, 40, 7, [[.pv (.list 1 (encI d.ps)), .pv (ii d.t.kd), .pv (ii d.t.id), .pv (.list 3 (encL d.t.args)), .pv (ii d.tr), .pv (.list 4 (encTb d.bs)), .pv d.ms]], none⟩
set_option maxHeartbeats 4000000 in
theorem sp_l1 {ds : List Dc} {az : List Tb} {d : Dc} {t : Ty} {tr : Int} {i n : Nat} {xs : List Ty} (hl : d.ps.length ≤ 1099511627776) {b0 : Bool} {Q : Exit → Fr → Hp → Prop}
    (hQ : ∀ (x1 x2 x3 x4 : V), Q Exit.normal [(85, x1), (84, x2), (83, x3), (82, x4), (18, .pv (bb (allO d.t d.ps b0))), (17, .pv (.list 3 (encL xs))), (16, .ptr 3 0 0), (15, .pv (ii i)), (63, .pv (ii i)), (62, .pv (ii ds.length)), (61, .pv (.list 7 (encDc ds))), (12, .ptr 2 0 0), (10, .ptr 1 0 0), (7, .ptr 0 0 0), (4, .pv (ii n)), (3, .pv (ii tr)), (1, .pv (.list 4 (encTb az))), (0, .pv (.list 7 (encDc ds)))] [some (bt t), some bz, some bz, some (bd d)]) :
    ∀ (rest pre : List Int) (b : Bool), pre ++ rest = d.ps → allO d.t d.ps b0 = allO d.t rest b → loopN (awp Try.prog ac27_l1) (catch_ 4 Q) (rest.length + 1)
      [(84, .pv (ii pre.length)), (83, .pv (ii d.ps.length)), (82, .pv (.list 1 (encI d.ps))), (18, .pv (bb b)), (17, .pv (.list 3 (encL xs))), (16, .ptr 3 0 0), (15, .pv (ii i)), (63, .pv (ii i)), (62, .pv (ii ds.length)), (61, .pv (.list 7 (encDc ds))), (12, .ptr 2 0 0), (10, .ptr 1 0 0), (7, .ptr 0 0 0), (4, .pv (ii n)), (3, .pv (ii tr)), (1, .pv (.list 4 (encTb az))), (0, .pv (.list 7 (encDc ds)))]
      [some (bt t), some bz, some bz, some (bd d)] := by
  simp only [bt, bz, bd] at hQ ⊢
  intro rest
  induction rest with
  | nil =>
    intro pre b hpre he
    have hpre : pre = d.ps := by simpa using hpre
    have hlt : decide ((pre.length : Int) < (d.ps.length : Int)) = false := by rw [hpre]; exact lt_end _
    rw [he] at hQ
    simp only [allO] at hQ
    refine loopN_k fun K1 hK1 => ?_
    unfold ac27_l1
    (repeat' (first | ((with_reducible first | refine aops_cons' fun C hC => ?_ | refine aopsD_cons' fun C hC => ?_ | intro C hC); simp only [go_sem, hlt]; ((with_reducible first | refine finA hC ?_ | refine finD hC ?_); clear hC C)) | (with_reducible first | refine awp_seq_k fun K hK => ?_ | refine awp_reg_k fun K hK => ?_ | refine awp_dreg_k fun K hK => ?_ | (refine aops_nil ?_; refine hK _ _ ?_; try clear hK K) | (refine aopsD_nil ?_; refine hK _ _ _ ?_ ?_; (focus kernel_rfl); try clear hK K) | (refine thn_normal ?_; refine hK _ _ ?_; try clear hK K) | refine catch_normal ?_ | refine awp_skip_k ?_ | refine awp_ret_k ?_ | refine awp_exit_k ?_ | refine awp_block_k ?_ | (refine thn_exit ?_; try clear hK K) | (refine thn_ret ?_; try clear hK K) | refine catch_ret ?_ | refine catch_exit ?_ | (refine catch_other ?_ ?_; focus decide)) | ((with_reducible first | apply aops_guard' | apply aopsD_guard' | apply awp_cond_g); focus (simp only [go_sem, hlt]; exact rfl)) | (with_reducible first | refine gk_tt ?_ | refine gk_ff ?_ | refine ck_t ?_ | refine ck_f ?_) | ((with_reducible first | refine gk_tf ?_ | refine gk_ft ?_ | refine gk_u ?_ | refine gk_u' ?_); first | (intro _ e; (first | rw [put_some] at e | rw [put_none] at e); subst e) | (intro _ _ e e'; (first | rw [put_some] at e | rw [put_none] at e); subst e; subst e'))))
    exact hQ _ _ _ _
  | cons p rest ih =>
    intro pre b hpre he
    have hlt : decide ((pre.length : Int) < (d.ps.length : Int)) = true := by rw [← hpre]; exact lt_app _ _ _
    have hat : (encI d.ps)[pre.length]? = some (ii p) := by rw [← hpre]; exact encI_at _ _ _
    have hw := wrapS (n := pre.length) (by have := congrArg List.length hpre; simp at this; omega)
    have hc := po_ok p d.t
    rw [eq_enc] at hc
    simp only [allO] at he
    refine loopN_k fun K1 hK1 => ?_
    unfold ac27_l1
    cases b with
    | false =>
      simp only [Bool.false_eq_true, if_false] at he
      (repeat' (first | ((with_reducible first | refine aops_cons' fun C hC => ?_ | refine aopsD_cons' fun C hC => ?_ | intro C hC); simp only [go_sem, hlt, hat]; ((with_reducible first | refine finA hC ?_ | refine finD hC ?_); clear hC C)) | (with_reducible first | refine awp_seq_k fun K hK => ?_ | refine awp_reg_k fun K hK => ?_ | refine awp_dreg_k fun K hK => ?_ | (refine aops_nil ?_; refine hK _ _ ?_; try clear hK K) | (refine aopsD_nil ?_; refine hK _ _ _ ?_ ?_; (focus kernel_rfl); try clear hK K) | (refine thn_normal ?_; refine hK _ _ ?_; try clear hK K) | refine catch_normal ?_ | refine awp_skip_k ?_ | refine awp_ret_k ?_ | refine awp_exit_k ?_ | refine awp_block_k ?_ | (refine thn_exit ?_; try clear hK K) | (refine thn_ret ?_; try clear hK K) | refine catch_ret ?_ | refine catch_exit ?_ | (refine catch_other ?_ ?_; focus decide)) | ((with_reducible first | apply aops_guard' | apply aopsD_guard' | apply awp_cond_g); focus (simp only [go_sem, hlt, hat]; exact rfl)) | (with_reducible first | refine gk_tt ?_ | refine gk_ff ?_ | refine ck_t ?_ | refine ck_f ?_) | ((with_reducible first | refine gk_tf ?_ | refine gk_ft ?_ | refine gk_u ?_ | refine gk_u' ?_); first | (intro _ e; (first | rw [put_some] at e | rw [put_none] at e); subst e) | (intro _ _ e e'; (first | rw [put_some] at e | rw [put_none] at e); subst e; subst e'))))
      refine thn_normal ?_
      refine hK1 _ _ _ _ _ (LeB [0, 1, 2, 3] (by refine ⟨?_, ?_, ?_⟩ <;> simp only [leFr, leFb, leHp, V.ren, V.renL, V.bd, V.bdL, allL, lt, Go.Ab.get, hget, List.map_cons, List.map_nil, List.length_cons, List.length_nil, List.length_append, List.getElem?_cons_zero, List.getElem?_cons_succ, List.getElem?_nil, Option.join_some, Option.join_none, List.getD_cons_zero, List.getD_cons_succ, List.getD_nil, Nat.reduceAdd, Nat.reduceLT, Nat.reduceEqDiff, Nat.zero_add, reduceIte, if_true, if_false, and_true, true_and, renL_vcells, allL_vcells, renL_pv, leBlk_some, eq_self, true_or, or_true, reduceCtorEq, false_or, hw, List.length_append, allL, Z8])) (ih (pre ++ [p]) false (by simp [hpre]) he)
    | true =>
      simp only [if_true] at he
      (repeat' (first | ((first | (with_reducible refine aops_call fun C hC => ?_) | (with_reducible refine aopsD_call fun C hC => ?_) | ((with_reducible intro C hC); (with_reducible refine ax_call_mp ?_))); (first | (simp only [go_sem, hlt, hat]; (first | ((with_reducible apply ACall.pure0 [] (hc)); (focus (exact vwA)))))); (simp only [PV.scal, PV.scalL, if_true, Bool.and_true, Bool.and_false, Bool.false_and, Bool.true_and, frz, List.map_nil, Bool.false_eq_true, if_false, ite_self, hlt, hat]); ((with_reducible first | refine finA hC ?_ | refine finD hC ?_); clear hC C)) | ((with_reducible first | refine aops_cons' fun C hC => ?_ | refine aopsD_cons' fun C hC => ?_ | intro C hC); simp only [go_sem, hlt, hat]; ((with_reducible first | refine finA hC ?_ | refine finD hC ?_); clear hC C)) | (with_reducible first | refine awp_seq_k fun K hK => ?_ | refine awp_reg_k fun K hK => ?_ | refine awp_dreg_k fun K hK => ?_ | (refine aops_nil ?_; refine hK _ _ ?_; try clear hK K) | (refine aopsD_nil ?_; refine hK _ _ _ ?_ ?_; (focus kernel_rfl); try clear hK K) | (refine thn_normal ?_; refine hK _ _ ?_; try clear hK K) | refine catch_normal ?_ | refine awp_skip_k ?_ | refine awp_ret_k ?_ | refine awp_exit_k ?_ | refine awp_block_k ?_ | (refine thn_exit ?_; try clear hK K) | (refine thn_ret ?_; try clear hK K) | refine catch_ret ?_ | refine catch_exit ?_ | (refine catch_other ?_ ?_; focus decide)) | ((with_reducible first | apply aops_guard' | apply aopsD_guard' | apply awp_cond_g); focus (simp only [go_sem, hlt, hat]; exact rfl)) | (with_reducible first | refine gk_tt ?_ | refine gk_ff ?_ | refine ck_t ?_ | refine ck_f ?_) | ((with_reducible first | refine gk_tf ?_ | refine gk_ft ?_ | refine gk_u ?_ | refine gk_u' ?_); first | (intro _ e; (first | rw [put_some] at e | rw [put_none] at e); subst e) | (intro _ _ e e'; (first | rw [put_some] at e | rw [put_none] at e); subst e; subst e'))))
      refine thn_normal ?_
      refine hK1 _ _ _ _ _ (LeB [0, 1, 2, 3] (by refine ⟨?_, ?_, ?_⟩ <;> simp only [leFr, leFb, leHp, V.ren, V.renL, V.bd, V.bdL, allL, lt, Go.Ab.get, hget, List.map_cons, List.map_nil, List.length_cons, List.length_nil, List.length_append, List.getElem?_cons_zero, List.getElem?_cons_succ, List.getElem?_nil, Option.join_some, Option.join_none, List.getD_cons_zero, List.getD_cons_succ, List.getD_nil, Nat.reduceAdd, Nat.reduceLT, Nat.reduceEqDiff, Nat.zero_add, reduceIte, if_true, if_false, and_true, true_and, renL_vcells, allL_vcells, renL_pv, leBlk_some, eq_self, true_or, or_true, reduceCtorEq, false_or, hw, List.length_append, allL, Z8])) (ih (pre ++ [p]) (occP p d.t) (by simp [hpre]) he)
set_option maxHeartbeats 8000000 in
theorem sp_l2 {ds : List Dc} {az : List Tb} {d : Dc} {t : Ty} {tr : Int} {i n : Nat} {xs : List Ty} {r0 r1 : PV} (hn : n ≤ 1000) (hl : d.bs.length ≤ 1099511627776) (hxs : d.ps.length ≤ xs.length)
    (ihn : ∀ (t : Ty) (tr : Int), PCall Try.prog 27 [.list 7 (encDc ds), .list 4 (encTb az), t.enc, ii tr, ii n] (solV (sol ds az n t tr)))
    (hN : solL (sol ds az n) d.ps xs d.bs = none → r0 = zP.enc ∧ r1 = bb false) (hS : ∀ ps, solL (sol ds az n) d.ps xs d.bs = some ps → r0 = (Prf.mk t tr i (-1) xs ps).enc ∧ r1 = bb true)
    {K : Fr → Hp → Prop} {P : Exit → Fr → Hp → Prop}
    (hK : ∀ fr H, awp Try.prog (AC.seq (AC.reg [⟨some 141, .load true 8 (.tmp 21), none⟩, ⟨none, .store 8 (.tmp 10) (.tmp 141), none⟩, ⟨some 11, .mov (.const (.bool true)), none⟩]) AC.ret) P fr H → K fr H)
    (hP : ∀ fr H, retP [RV.cell 10 8 true, RV.tmp 11] [r0, r1] Exit.ret fr H → P Exit.ret fr H) :
    loopN (awp Try.prog ac27_l2) (catch_ 6 (thn K P)) (d.bs.length + 1)
      [(111, .pv (ii 0)), (110, .pv (ii d.bs.length)), (109, .pv (.list 4 (encTb d.bs))), (21, .ptr 4 0 0), (17, .pv (.list 3 (encL xs))), (16, .ptr 3 0 0), (12, .ptr 2 0 0), (10, .ptr 1 0 0), (4, .pv (ii (n + 1 : Nat))), (1, .pv (.list 4 (encTb az))), (0, .pv (.list 7 (encDc ds)))]
      [some (bt t), some bz, some bz, some (bd d), some ⟨false, 30, 8, [[.pv (ii t.kd), .pv (ii t.id), .pv (.list 3 (encL t.args)), .pv (ii tr), .pv (ii i), .pv (ii (-1)), .pv (.list 3 (encL xs)), .pv (.lit (.slice none 0 0))]], none⟩] := by
  have hw1 : IntKind.i64.wrap (((n + 1 : Nat) : Int) - 1) = (n : Int) := by rw [IntWalk.i64_in _ (by omega)]; omega
  simp only [bt, bz, bd, Z8]
  have rows : ∀ (rest pre : List Tb) (qs : List Prf), pre ++ rest = d.bs → solL (sol ds az n) d.ps xs pre = some qs → loopN (awp Try.prog ac27_l2) (catch_ 6 (thn K P)) (rest.length + 1)
       [(111, .pv (ii pre.length)), (110, .pv (ii d.bs.length)), (109, .pv (.list 4 (encTb d.bs))), (21, .ptr 4 0 0), (17, .pv (.list 3 (encL xs))), (16, .ptr 3 0 0), (12, .ptr 2 0 0), (10, .ptr 1 0 0), (4, .pv (ii (n + 1 : Nat))), (1, .pv (.list 4 (encTb az))), (0, .pv (.list 7 (encDc ds)))]
       [some ⟨false, 26, 3, [[.pv (ii t.kd), .pv (ii t.id), .pv (.list 3 (encL t.args))]], none⟩, some ⟨false, 30, 8, [[.pv (ii 0), .pv (ii 0), .pv (.lit (.slice none 0 0)), .pv (ii 0), .pv (ii 0), .pv (ii 0), .pv (.lit (.slice none 0 0)), .pv (.lit (.slice none 0 0))]], none⟩, some ⟨false, 30, 8, [[.pv (ii 0), .pv (ii 0), .pv (.lit (.slice none 0 0)), .pv (ii 0), .pv (ii 0), .pv (ii 0), .pv (.lit (.slice none 0 0)), .pv (.lit (.slice none 0 0))]], none⟩,
        some ⟨false, 40, 7, [[.pv (.list 1 (encI d.ps)), .pv (ii d.t.kd), .pv (ii d.t.id), .pv (.list 3 (encL d.t.args)), .pv (ii d.tr), .pv (.list 4 (encTb d.bs)), .pv d.ms]], none⟩,
        some ⟨false, 30, 8, [[.pv (ii t.kd), .pv (ii t.id), .pv (.list 3 (encL t.args)), .pv (ii tr), .pv (ii i), .pv (ii (-1)), .pv (.list 3 (encL xs)), .row 5 qs.length false]], none⟩, some ⟨false, 30, 8, qs.map Prf.tc, none⟩] := by
    intro rest
    induction rest with
    | nil =>
      intro pre qs hpre hq
      have hpre : pre = d.bs := by simpa using hpre
      rw [hpre] at hq
      obtain ⟨rfl, rfl⟩ := hS _ hq
      have hlt : decide ((pre.length : Int) < (d.bs.length : Int)) = false := by rw [hpre]; exact lt_end _
      refine loopN_k fun K1 hK1 => ?_
      unfold ac27_l2
      (repeat' (first | ((with_reducible first | refine aops_cons' fun C hC => ?_ | refine aopsD_cons' fun C hC => ?_ | intro C hC); simp only [go_sem, hlt]; ((with_reducible first | refine finA hC ?_ | refine finD hC ?_); clear hC C)) | (with_reducible first | refine awp_seq_k fun K hK => ?_ | refine awp_reg_k fun K hK => ?_ | refine awp_dreg_k fun K hK => ?_ | (refine aops_nil ?_; refine hK _ _ ?_; try clear hK K) | (refine aopsD_nil ?_; refine hK _ _ _ ?_ ?_; (focus kernel_rfl); try clear hK K) | (refine thn_normal ?_; refine hK _ _ ?_; try clear hK K) | refine catch_normal ?_ | refine awp_skip_k ?_ | refine awp_ret_k ?_ | refine awp_exit_k ?_ | refine awp_block_k ?_ | (refine thn_exit ?_; try clear hK K) | (refine thn_ret ?_; try clear hK K) | refine catch_ret ?_ | refine catch_exit ?_ | (refine catch_other ?_ ?_; focus decide)) | ((with_reducible first | apply aops_guard' | apply aopsD_guard' | apply awp_cond_g); focus (simp only [go_sem, hlt]; exact rfl)) | (with_reducible first | refine gk_tt ?_ | refine gk_ff ?_ | refine ck_t ?_ | refine ck_f ?_) | ((with_reducible first | refine gk_tf ?_ | refine gk_ft ?_ | refine gk_u ?_ | refine gk_u' ?_); first | (intro _ e; (first | rw [put_some] at e | rw [put_none] at e); subst e) | (intro _ _ e e'; (first | rw [put_some] at e | rw [put_none] at e); subst e; subst e'))))
      refine hP _ _ ?_
      refine retP_ret (List.range 40) rfl ?_
      simp only [Prf.enc]
      refine .cons _ _ _ _ (.agg _ _ ?_) (.cons _ _ _ _ (.pv _) .nil)
      exact .cons _ _ _ _ (.pv _) (.cons _ _ _ _ (.pv _) (.cons _ _ _ _ (.pv _) (.cons _ _ _ _ (.pv _) (.cons _ _ _ _ (.pv _) (.cons _ _ _ _ (.pv _) (.cons _ _ _ _ (.pv _) (.cons _ _ _ _ (row_prf (by decide) rfl rfl) .nil)))))))
    | cons b rest ih =>
      intro pre qs hpre hq
      have hlt : decide ((pre.length : Int) < (d.bs.length : Int)) = true := by rw [← hpre]; exact lt_app _ _ _
      have hbt : (encTb d.bs)[pre.length]? = some b.enc := by rw [← hpre]; exact encTb_at _ _ _
      have hb : pre.length + 1 ≤ big := by have := congrArg List.length hpre; simp at this; unfold big; omega
      have hw := wrapS (n := pre.length) (by unfold big at hb; omega)
      have hql := solL_len hq
      have hqb : qs.length + 1 ≤ big := by omega
      have hap := ra_ok d.ps xs b.t
      rw [raT_eq hxs, eq_enc b.t, eq_enc (appT d.ps xs b.t)] at hap
      have hc := ihn (appT d.ps xs b.t) b.tr
      rw [eq_enc (appT d.ps xs b.t)] at hc
      have hsa := solL_app (b := b) (rest := rest) hq
      rw [hpre] at hsa
      refine loopN_k fun K1 hK1 => ?_
      unfold ac27_l2
      cases hr : sol ds az n (appT d.ps xs b.t) b.tr with
      | none =>
        rw [hr] at hc hsa
        obtain ⟨rfl, rfl⟩ := hN hsa
        simp only [solV] at hc
        (repeat' (first | ((first | (with_reducible refine aops_call fun C hC => ?_) | (with_reducible refine aopsD_call fun C hC => ?_) | ((with_reducible intro C hC); (with_reducible refine ax_call_mp ?_))); (first | (simp only [go_sem, hlt, hbt, pcells_tb, cells_enc, Ty.tc, hw1, cells_prf, Prf.tc, scal_prf]; (first | ((with_reducible apply ACall.pure0 [] (hap)); (focus (exact vwA))) | ((with_reducible apply ACall.pure0 [] (hc)); (focus (exact vwA)))))); (simp only [PV.scal, PV.scalL, if_true, Bool.and_true, Bool.and_false, Bool.false_and, Bool.true_and, frz, List.map_nil, Bool.false_eq_true, if_false, ite_self, hlt, hbt, pcells_tb, cells_enc, Ty.tc, hw1, cells_prf, Prf.tc, scal_prf]); ((with_reducible first | refine finA hC ?_ | refine finD hC ?_); clear hC C)) | ((with_reducible first | refine aops_cons' fun C hC => ?_ | refine aopsD_cons' fun C hC => ?_ | intro C hC); simp only [go_sem, hlt, hbt, pcells_tb, cells_enc, Ty.tc, hw1, cells_prf, Prf.tc, scal_prf]; ((with_reducible first | refine finA hC ?_ | refine finD hC ?_); clear hC C)) | (with_reducible first | refine awp_seq_k fun K hK => ?_ | refine awp_reg_k fun K hK => ?_ | refine awp_dreg_k fun K hK => ?_ | (refine aops_nil ?_; refine hK _ _ ?_; try clear hK K) | (refine aopsD_nil ?_; refine hK _ _ _ ?_ ?_; (focus kernel_rfl); try clear hK K) | (refine thn_normal ?_; refine hK _ _ ?_; try clear hK K) | refine catch_normal ?_ | refine awp_skip_k ?_ | refine awp_ret_k ?_ | refine awp_exit_k ?_ | refine awp_block_k ?_ | (refine thn_exit ?_; try clear hK K) | (refine thn_ret ?_; try clear hK K) | refine catch_ret ?_ | refine catch_exit ?_ | (refine catch_other ?_ ?_; focus decide)) | ((with_reducible first | apply aops_guard' | apply aopsD_guard' | apply awp_cond_g); focus (simp only [go_sem, hlt, hbt, pcells_tb, cells_enc, Ty.tc, hw1, cells_prf, Prf.tc, scal_prf]; exact rfl)) | (with_reducible first | refine gk_tt ?_ | refine gk_ff ?_ | refine ck_t ?_ | refine ck_f ?_) | ((with_reducible first | refine gk_tf ?_ | refine gk_ft ?_ | refine gk_u ?_ | refine gk_u' ?_); first | (intro _ e; (first | rw [put_some] at e | rw [put_none] at e); subst e) | (intro _ _ e e'; (first | rw [put_some] at e | rw [put_none] at e); subst e; subst e'))))
        refine hP _ _ ?_
        (refine retP_ret (List.range 40) rfl ?_; (try simp only [zP, Prf.enc, encL, encPf, zT, if_true, if_false, Bool.false_eq_true, Bool.not_true, Bool.not_false]); exact vwA)
      | some q =>
        rw [hr] at hc
        simp only [solV] at hc
        have hq2 : solL (sol ds az n) d.ps xs (pre ++ [b]) = some (qs ++ [q]) := by
          rw [solL_app (b := b) (rest := []) hq, hr]; simp [solL]
        (repeat' (first | ((first | (with_reducible refine aops_call fun C hC => ?_) | (with_reducible refine aopsD_call fun C hC => ?_) | ((with_reducible intro C hC); (with_reducible refine ax_call_mp ?_))); (first | (simp only [go_sem, hlt, hbt, pcells_tb, cells_enc, Ty.tc, hw1, cells_prf, Prf.tc, scal_prf, List.length_map, hqb]; (first | ((with_reducible apply ACall.pure0 [] (hap)); (focus (exact vwA))) | ((with_reducible apply ACall.pure0 [] (hc)); (focus (exact vwA)))))); (simp only [PV.scal, PV.scalL, if_true, Bool.and_true, Bool.and_false, Bool.false_and, Bool.true_and, frz, List.map_nil, Bool.false_eq_true, if_false, ite_self, hlt, hbt, pcells_tb, cells_enc, Ty.tc, hw1, cells_prf, Prf.tc, scal_prf, List.length_map, hqb]); ((with_reducible first | refine finA hC ?_ | refine finD hC ?_); clear hC C)) | ((with_reducible first | refine aops_cons' fun C hC => ?_ | refine aopsD_cons' fun C hC => ?_ | intro C hC); simp only [go_sem, hlt, hbt, pcells_tb, cells_enc, Ty.tc, hw1, cells_prf, Prf.tc, scal_prf, List.length_map, hqb]; ((with_reducible first | refine finA hC ?_ | refine finD hC ?_); clear hC C)) | (with_reducible first | refine awp_seq_k fun K hK => ?_ | refine awp_reg_k fun K hK => ?_ | refine awp_dreg_k fun K hK => ?_ | (refine aops_nil ?_; refine hK _ _ ?_; try clear hK K) | (refine aopsD_nil ?_; refine hK _ _ _ ?_ ?_; (focus kernel_rfl); try clear hK K) | (refine thn_normal ?_; refine hK _ _ ?_; try clear hK K) | refine catch_normal ?_ | refine awp_skip_k ?_ | refine awp_ret_k ?_ | refine awp_exit_k ?_ | refine awp_block_k ?_ | (refine thn_exit ?_; try clear hK K) | (refine thn_ret ?_; try clear hK K) | refine catch_ret ?_ | refine catch_exit ?_ | (refine catch_other ?_ ?_; focus decide)) | ((with_reducible first | apply aops_guard' | apply aopsD_guard' | apply awp_cond_g); focus (simp only [go_sem, hlt, hbt, pcells_tb, cells_enc, Ty.tc, hw1, cells_prf, Prf.tc, scal_prf, List.length_map, hqb]; exact rfl)) | (with_reducible first | refine gk_tt ?_ | refine gk_ff ?_ | refine ck_t ?_ | refine ck_f ?_) | ((with_reducible first | refine gk_tf ?_ | refine gk_ft ?_ | refine gk_u ?_ | refine gk_u' ?_); first | (intro _ e; (first | rw [put_some] at e | rw [put_none] at e); subst e) | (intro _ _ e e'; (first | rw [put_some] at e | rw [put_none] at e); subst e; subst e'))))
        refine thn_normal ?_
        refine hK1 _ _ _ _ _ (LeB [0, 1, 2, 3, 4, 25] (by refine ⟨?_, ?_, ?_⟩ <;> simp only [leFr, leFb, leHp, V.ren, V.renL, V.bd, V.bdL, allL, lt, Go.Ab.get, hget, List.map_cons, List.map_nil, List.length_cons, List.length_nil, List.length_append, List.getElem?_cons_zero, List.getElem?_cons_succ, List.getElem?_nil, Option.join_some, Option.join_none, List.getD_cons_zero, List.getD_cons_succ, List.getD_nil, Nat.reduceAdd, Nat.reduceLT, Nat.reduceEqDiff, Nat.zero_add, reduceIte, if_true, if_false, and_true, true_and, renL_vcells, allL_vcells, renL_pv, leBlk_some, eq_self, true_or, or_true, reduceCtorEq, false_or, hw, List.length_append, renL_ptc, allL_ptc, List.map_append, Prf.tc, allL_app, allL])) (ih (pre ++ [b]) (qs ++ [q]) (by simp [hpre]) hq2)
  cases hbb : d.bs with
  | nil =>
    rw [hbb] at hS
    obtain ⟨rfl, rfl⟩ := hS [] rfl
    refine loopN_k fun K1 hK1 => ?_
    unfold ac27_l2
    (repeat' (first | ((with_reducible first | refine aops_cons' fun C hC => ?_ | refine aopsD_cons' fun C hC => ?_ | intro C hC); simp only [go_sem, hbb, List.length_nil, Int.ofNat_zero]; ((with_reducible first | refine finA hC ?_ | refine finD hC ?_); clear hC C)) | (with_reducible first | refine awp_seq_k fun K hK => ?_ | refine awp_reg_k fun K hK => ?_ | refine awp_dreg_k fun K hK => ?_ | (refine aops_nil ?_; refine hK _ _ ?_; try clear hK K) | (refine aopsD_nil ?_; refine hK _ _ _ ?_ ?_; (focus kernel_rfl); try clear hK K) | (refine thn_normal ?_; refine hK _ _ ?_; try clear hK K) | refine catch_normal ?_ | refine awp_skip_k ?_ | refine awp_ret_k ?_ | refine awp_exit_k ?_ | refine awp_block_k ?_ | (refine thn_exit ?_; try clear hK K) | (refine thn_ret ?_; try clear hK K) | refine catch_ret ?_ | refine catch_exit ?_ | (refine catch_other ?_ ?_; focus decide)) | ((with_reducible first | apply aops_guard' | apply aopsD_guard' | apply awp_cond_g); focus (simp only [go_sem, hbb, List.length_nil, Int.ofNat_zero]; exact rfl)) | (with_reducible first | refine gk_tt ?_ | refine gk_ff ?_ | refine ck_t ?_ | refine ck_f ?_) | ((with_reducible first | refine gk_tf ?_ | refine gk_ft ?_ | refine gk_u ?_ | refine gk_u' ?_); first | (intro _ e; (first | rw [put_some] at e | rw [put_none] at e); subst e) | (intro _ _ e e'; (first | rw [put_some] at e | rw [put_none] at e); subst e; subst e'))))
    refine hP _ _ ?_
    (refine retP_ret (List.range 40) rfl ?_; (try simp only [Prf.enc, encL, encPf, if_true, if_false, Bool.false_eq_true, Bool.not_true, Bool.not_false]); exact vwA)
  | cons b rest =>
    have hlt : decide ((0 : Int) < (((b :: rest).length : Nat) : Int)) = true := by simp
    have hbt : (encTb (b :: rest))[0]? = some b.enc := rfl
    have hap := ra_ok d.ps xs b.t
    rw [raT_eq hxs, eq_enc b.t, eq_enc (appT d.ps xs b.t)] at hap
    have hc := ihn (appT d.ps xs b.t) b.tr
    rw [eq_enc (appT d.ps xs b.t)] at hc
    have hsa := solL_app (f := sol ds az n) (ps := d.ps) (xs := xs) (b := b) (pre := []) (rest := rest) (qs := []) rfl
    rw [List.nil_append] at hsa
    rw [hbb] at hN hS rows
    refine loopN_k fun K1 hK1 => ?_
    unfold ac27_l2
    cases hr : sol ds az n (appT d.ps xs b.t) b.tr with
    | none =>
      rw [hr] at hc hsa
      obtain ⟨rfl, rfl⟩ := hN hsa
      simp only [solV] at hc
      (repeat' (first | ((first | (with_reducible refine aops_call fun C hC => ?_) | (with_reducible refine aopsD_call fun C hC => ?_) | ((with_reducible intro C hC); (with_reducible refine ax_call_mp ?_))); (first | (simp only [go_sem, hlt, hbt, pcells_tb, cells_enc, Ty.tc, hw1, cells_prf, Prf.tc, scal_prf]; (first | ((with_reducible apply ACall.pure0 [] (hap)); (focus (exact vwA))) | ((with_reducible apply ACall.pure0 [] (hc)); (focus (exact vwA)))))); (simp only [PV.scal, PV.scalL, if_true, Bool.and_true, Bool.and_false, Bool.false_and, Bool.true_and, frz, List.map_nil, Bool.false_eq_true, if_false, ite_self, hlt, hbt, pcells_tb, cells_enc, Ty.tc, hw1, cells_prf, Prf.tc, scal_prf]); ((with_reducible first | refine finA hC ?_ | refine finD hC ?_); clear hC C)) | ((with_reducible first | refine aops_cons' fun C hC => ?_ | refine aopsD_cons' fun C hC => ?_ | intro C hC); simp only [go_sem, hlt, hbt, pcells_tb, cells_enc, Ty.tc, hw1, cells_prf, Prf.tc, scal_prf]; ((with_reducible first | refine finA hC ?_ | refine finD hC ?_); clear hC C)) | (with_reducible first | refine awp_seq_k fun K hK => ?_ | refine awp_reg_k fun K hK => ?_ | refine awp_dreg_k fun K hK => ?_ | (refine aops_nil ?_; refine hK _ _ ?_; try clear hK K) | (refine aopsD_nil ?_; refine hK _ _ _ ?_ ?_; (focus kernel_rfl); try clear hK K) | (refine thn_normal ?_; refine hK _ _ ?_; try clear hK K) | refine catch_normal ?_ | refine awp_skip_k ?_ | refine awp_ret_k ?_ | refine awp_exit_k ?_ | refine awp_block_k ?_ | (refine thn_exit ?_; try clear hK K) | (refine thn_ret ?_; try clear hK K) | refine catch_ret ?_ | refine catch_exit ?_ | (refine catch_other ?_ ?_; focus decide)) | ((with_reducible first | apply aops_guard' | apply aopsD_guard' | apply awp_cond_g); focus (simp only [go_sem, hlt, hbt, pcells_tb, cells_enc, Ty.tc, hw1, cells_prf, Prf.tc, scal_prf]; exact rfl)) | (with_reducible first | refine gk_tt ?_ | refine gk_ff ?_ | refine ck_t ?_ | refine ck_f ?_) | ((with_reducible first | refine gk_tf ?_ | refine gk_ft ?_ | refine gk_u ?_ | refine gk_u' ?_); first | (intro _ e; (first | rw [put_some] at e | rw [put_none] at e); subst e) | (intro _ _ e e'; (first | rw [put_some] at e | rw [put_none] at e); subst e; subst e'))))
      refine hP _ _ ?_
      (refine retP_ret (List.range 40) rfl ?_; (try simp only [zP, Prf.enc, encL, encPf, zT, if_true, if_false, Bool.false_eq_true, Bool.not_true, Bool.not_false]); exact vwA)
    | some q =>
      rw [hr] at hc
      simp only [solV] at hc
      have hq2 : solL (sol ds az n) d.ps xs [b] = some [q] := by simp [solL, hr]
      (repeat' (first | ((first | (with_reducible refine aops_call fun C hC => ?_) | (with_reducible refine aopsD_call fun C hC => ?_) | ((with_reducible intro C hC); (with_reducible refine ax_call_mp ?_))); (first | (simp only [go_sem, hlt, hbt, pcells_tb, cells_enc, Ty.tc, hw1, cells_prf, Prf.tc, scal_prf]; (first | ((with_reducible apply ACall.pure0 [] (hap)); (focus (exact vwA))) | ((with_reducible apply ACall.pure0 [] (hc)); (focus (exact vwA)))))); (simp only [PV.scal, PV.scalL, if_true, Bool.and_true, Bool.and_false, Bool.false_and, Bool.true_and, frz, List.map_nil, Bool.false_eq_true, if_false, ite_self, hlt, hbt, pcells_tb, cells_enc, Ty.tc, hw1, cells_prf, Prf.tc, scal_prf]); ((with_reducible first | refine finA hC ?_ | refine finD hC ?_); clear hC C)) | ((with_reducible first | refine aops_cons' fun C hC => ?_ | refine aopsD_cons' fun C hC => ?_ | intro C hC); simp only [go_sem, hlt, hbt, pcells_tb, cells_enc, Ty.tc, hw1, cells_prf, Prf.tc, scal_prf]; ((with_reducible first | refine finA hC ?_ | refine finD hC ?_); clear hC C)) | (with_reducible first | refine awp_seq_k fun K hK => ?_ | refine awp_reg_k fun K hK => ?_ | refine awp_dreg_k fun K hK => ?_ | (refine aops_nil ?_; refine hK _ _ ?_; try clear hK K) | (refine aopsD_nil ?_; refine hK _ _ _ ?_ ?_; (focus kernel_rfl); try clear hK K) | (refine thn_normal ?_; refine hK _ _ ?_; try clear hK K) | refine catch_normal ?_ | refine awp_skip_k ?_ | refine awp_ret_k ?_ | refine awp_exit_k ?_ | refine awp_block_k ?_ | (refine thn_exit ?_; try clear hK K) | (refine thn_ret ?_; try clear hK K) | refine catch_ret ?_ | refine catch_exit ?_ | (refine catch_other ?_ ?_; focus decide)) | ((with_reducible first | apply aops_guard' | apply aopsD_guard' | apply awp_cond_g); focus (simp only [go_sem, hlt, hbt, pcells_tb, cells_enc, Ty.tc, hw1, cells_prf, Prf.tc, scal_prf]; exact rfl)) | (with_reducible first | refine gk_tt ?_ | refine gk_ff ?_ | refine ck_t ?_ | refine ck_f ?_) | ((with_reducible first | refine gk_tf ?_ | refine gk_ft ?_ | refine gk_u ?_ | refine gk_u' ?_); first | (intro _ e; (first | rw [put_some] at e | rw [put_none] at e); subst e) | (intro _ _ e e'; (first | rw [put_some] at e | rw [put_none] at e); subst e; subst e'))))
      refine thn_normal ?_
      refine hK1 _ _ _ _ _ (LeB [0, 1, 2, 3, 4, 24] (by refine ⟨?_, ?_, ?_⟩ <;> simp only [leFr, leFb, leHp, V.ren, V.renL, V.bd, V.bdL, allL, lt, Go.Ab.get, hget, List.map_cons, List.map_nil, List.length_cons, List.length_nil, List.length_append, List.getElem?_cons_zero, List.getElem?_cons_succ, List.getElem?_nil, Option.join_some, Option.join_none, List.getD_cons_zero, List.getD_cons_succ, List.getD_nil, Nat.reduceAdd, Nat.reduceLT, Nat.reduceEqDiff, Nat.zero_add, reduceIte, if_true, if_false, and_true, true_and, renL_vcells, allL_vcells, renL_pv, leBlk_some, eq_self, true_or, or_true, reduceCtorEq, false_or, wrap01, renL_ptc, allL_ptc, List.map_cons, List.map_nil, Prf.tc, allL_app, allL])) (rows rest [b] [q] rfl hq2)
end Go.Proofs.Ytbdoblgofddhdaa
