/- B4: joined from V12 V13. -/
import Derived.Test.YtbdoblgofddhdaaFnU
import Derived.Test.YtbdoblgofddhdaaB3
/- Traits: the reference's search. -/
set_option maxRecDepth 10000
set_option linter.unusedSimpArgs false
set_option linter.unusedVariables false
namespace Go.Proofs.Ytbdoblgofddhdaa
open Go Go.Ab
def allO (t : Ty) : List Int → Bool → Bool
  | [], b => b
  | p :: ps, b => allO t ps (if b then occP p t else false)
theorem allO_eq (t : Ty) : ∀ (ps : List Int) (b : Bool), allO t ps b = if b then !(ps.any fun p => !occP p t) else false
  | [], b => by cases b <;> rfl
  | p :: ps, b => by
    simp only [allO, allO_eq t ps, List.any_cons]
    cases b <;> cases occP p t <;> simp
def Z8 : List V := [.pv (ii 0), .pv (ii 0), .pv (.lit (.slice none 0 0)), .pv (ii 0), .pv (ii 0), .pv (ii 0), .pv (.lit (.slice none 0 0)), .pv (.lit (.slice none 0 0))]
def bt (t : Ty) : Blk := ⟨false, 26, 3, [[.pv (ii t.kd), .pv (ii t.id), .pv (.list 3 (encL t.args))]], none⟩
def bz : Blk := ⟨false, 30, 8, [Z8], none⟩
def bd (d : Dc) : Blk := ⟨false, 40, 7, [[.pv (.list 1 (encI d.ps)), .pv (ii d.t.kd), .pv (ii d.t.id), .pv (.list 3 (encL d.t.args)), .pv (ii d.tr), .pv (.list 4 (encTb d.bs)), .pv d.ms]], none⟩
set_option maxHeartbeats 4000000 in
theorem sp_l1 {ds : List Dc} {az : List Tb} {d : Dc} {t : Ty} {tr : Int} {i n : Nat} {xs : List Ty} (hl : d.ps.length ≤ 1099511627776) {b0 : Bool} {Q : Exit → Fr → Hp → Prop}
    (hQ : ∀ (x1 x2 x3 x4 : V), Q Exit.normal [(85, x1), (84, x2), (83, x3), (82, x4), (18, .pv (bb (allO d.t d.ps b0))), (17, .pv (.list 3 (encL xs))), (16, .ptr 3 0 0), (15, .pv (ii i)), (63, .pv (ii i)), (62, .pv (ii ds.length)), (61, .pv (.list 7 (encDc ds))), (12, .ptr 2 0 0), (10, .ptr 1 0 0), (7, .ptr 0 0 0), (4, .pv (ii n)), (3, .pv (ii tr)), (1, .pv (.list 4 (encTb az))), (0, .pv (.list 7 (encDc ds)))] [some (bt t), some bz, some bz, some (bd d)]) :
    ∀ (rest pre : List Int) (b : Bool), pre ++ rest = d.ps → allO d.t d.ps b0 = allO d.t rest b → loopN (awp Try.prog ac27_l1) (catch_ 4 Q) (rest.length + 1)
      [(84, .pv (ii pre.length)), (83, .pv (ii d.ps.length)), (82, .pv (.list 1 (encI d.ps))), (18, .pv (bb b)), (17, .pv (.list 3 (encL xs))), (16, .ptr 3 0 0), (15, .pv (ii i)), (63, .pv (ii i)), (62, .pv (ii ds.length)), (61, .pv (.list 7 (encDc ds))), (12, .ptr 2 0 0), (10, .ptr 1 0 0), (7, .ptr 0 0 0), (4, .pv (ii n)), (3, .pv (ii tr)), (1, .pv (.list 4 (encTb az))), (0, .pv (.list 7 (encDc ds)))]
      [some (bt t), some bz, some bz, some (bd d)] := by
  simp only [bt, bz, bd] at hQ ⊢
  intro rest
  induction rest with
  | nil =>
    intro pre b hpre he
    have hpre : pre = d.ps := by simpa using hpre
    have hlt : decide ((pre.length : Int) < (d.ps.length : Int)) = false := by rw [hpre]; exact lt_end _
    rw [he] at hQ
    simp only [allO] at hQ
    refine loopN_k fun K1 hK1 => ?_
    unfold ac27_l1
    (repeat' (first | ((with_reducible first | refine qqT fun C hC => ?_ | refine qqU fun C hC => ?_ | intro C hC); simp only [go_sem, hlt]; ((with_reducible first | refine finA hC ?_ | refine finD hC ?_); clear hC C)) | (with_reducible first | refine qqA fun K hK => ?_ | refine qqB fun K hK => ?_ | refine qqC fun K hK => ?_ | (refine qqD ?_; refine hK _ _ ?_; try clear hK K) | (refine qqE ?_; refine hK _ _ _ ?_ ?_; (focus kernel_rfl); try clear hK K) | (refine qqF ?_; refine hK _ _ ?_; try clear hK K) | refine qqG ?_ | refine qqH ?_ | refine qqI ?_ | refine qqJ ?_ | refine qqK ?_ | (refine qqL ?_; try clear hK K) | (refine qqM ?_; try clear hK K) | refine qqN ?_ | refine qqO ?_ | (refine qqP ?_ ?_; focus decide)) | ((with_reducible first | apply qqQ | apply qqR | apply qqS); focus (simp only [go_sem, hlt]; exact rfl)) | (with_reducible first | refine gk_tt ?_ | refine gk_ff ?_ | refine ck_t ?_ | refine ck_f ?_) | ((with_reducible first | refine gk_tf ?_ | refine gk_ft ?_ | refine gk_u ?_ | refine gk_u' ?_); first | (intro _ e; (first | rw [qqY] at e | rw [qqZ] at e); subst e) | (intro _ _ e e'; (first | rw [qqY] at e | rw [qqZ] at e); subst e; subst e'))))
    exact hQ _ _ _ _
  | cons p rest ih =>
    intro pre b hpre he
    have hlt : decide ((pre.length : Int) < (d.ps.length : Int)) = true := by rw [← hpre]; exact lt_app _ _ _
    have hat : (encI d.ps)[pre.length]? = some (ii p) := by rw [← hpre]; exact encI_at _ _ _
    have hw := wrapS (n := pre.length) (by have := congrArg List.length hpre; simp at this; omega)
    have hc := po_ok p d.t
    rw [eq_enc] at hc
    simp only [allO] at he
    refine loopN_k fun K1 hK1 => ?_
    unfold ac27_l1
    cases b with
    | false =>
      simp only [Bool.false_eq_true, if_false] at he
      (repeat' (first | ((with_reducible first | refine qqT fun C hC => ?_ | refine qqU fun C hC => ?_ | intro C hC); simp only [go_sem, hlt, hat]; ((with_reducible first | refine finA hC ?_ | refine finD hC ?_); clear hC C)) | (with_reducible first | refine qqA fun K hK => ?_ | refine qqB fun K hK => ?_ | refine qqC fun K hK => ?_ | (refine qqD ?_; refine hK _ _ ?_; try clear hK K) | (refine qqE ?_; refine hK _ _ _ ?_ ?_; (focus kernel_rfl); try clear hK K) | (refine qqF ?_; refine hK _ _ ?_; try clear hK K) | refine qqG ?_ | refine qqH ?_ | refine qqI ?_ | refine qqJ ?_ | refine qqK ?_ | (refine qqL ?_; try clear hK K) | (refine qqM ?_; try clear hK K) | refine qqN ?_ | refine qqO ?_ | (refine qqP ?_ ?_; focus decide)) | ((with_reducible first | apply qqQ | apply qqR | apply qqS); focus (simp only [go_sem, hlt, hat]; exact rfl)) | (with_reducible first | refine gk_tt ?_ | refine gk_ff ?_ | refine ck_t ?_ | refine ck_f ?_) | ((with_reducible first | refine gk_tf ?_ | refine gk_ft ?_ | refine gk_u ?_ | refine gk_u' ?_); first | (intro _ e; (first | rw [qqY] at e | rw [qqZ] at e); subst e) | (intro _ _ e e'; (first | rw [qqY] at e | rw [qqZ] at e); subst e; subst e'))))
      refine qqF ?_
      refine hK1 _ _ _ _ _ (LeB [0, 1, 2, 3] (by refine ⟨?_, ?_, ?_⟩ <;> simp only [leFr, leFb, leHp, V.ren, V.renL, V.bd, V.bdL, allL, lt, Go.Ab.get, hget, List.map_cons, List.map_nil, List.length_cons, List.length_nil, List.length_append, List.getElem?_cons_zero, List.getElem?_cons_succ, List.getElem?_nil, Option.join_some, Option.join_none, List.getD_cons_zero, List.getD_cons_succ, List.getD_nil, Nat.reduceAdd, Nat.reduceLT, Nat.reduceEqDiff, Nat.zero_add, reduceIte, if_true, if_false, and_true, true_and, renL_vcells, allL_vcells, renL_pv, leBlk_some, eq_self, true_or, or_true, reduceCtorEq, false_or, hw, List.length_append, allL, Z8])) (ih (pre ++ [p]) false (by simp [hpre]) he)
    | true =>
      simp only [if_true] at he
      (repeat' (first | ((first | (with_reducible refine qqV fun C hC => ?_) | (with_reducible refine qqW fun C hC => ?_) | ((with_reducible intro C hC); (with_reducible refine qqX ?_))); (first | (simp only [go_sem, hlt, hat]; (first | ((with_reducible apply ACall.pure0 [] (hc)); (focus (exact vwA)))))); (simp only [go_sem, hlt, hat]); ((with_reducible first | refine finA hC ?_ | refine finD hC ?_); clear hC C)) | ((with_reducible first | refine qqT fun C hC => ?_ | refine qqU fun C hC => ?_ | intro C hC); simp only [go_sem, hlt, hat]; ((with_reducible first | refine finA hC ?_ | refine finD hC ?_); clear hC C)) | (with_reducible first | refine qqA fun K hK => ?_ | refine qqB fun K hK => ?_ | refine qqC fun K hK => ?_ | (refine qqD ?_; refine hK _ _ ?_; try clear hK K) | (refine qqE ?_; refine hK _ _ _ ?_ ?_; (focus kernel_rfl); try clear hK K) | (refine qqF ?_; refine hK _ _ ?_; try clear hK K) | refine qqG ?_ | refine qqH ?_ | refine qqI ?_ | refine qqJ ?_ | refine qqK ?_ | (refine qqL ?_; try clear hK K) | (refine qqM ?_; try clear hK K) | refine qqN ?_ | refine qqO ?_ | (refine qqP ?_ ?_; focus decide)) | ((with_reducible first | apply qqQ | apply qqR | apply qqS); focus (simp only [go_sem, hlt, hat]; exact rfl)) | (with_reducible first | refine gk_tt ?_ | refine gk_ff ?_ | refine ck_t ?_ | refine ck_f ?_) | ((with_reducible first | refine gk_tf ?_ | refine gk_ft ?_ | refine gk_u ?_ | refine gk_u' ?_); first | (intro _ e; (first | rw [qqY] at e | rw [qqZ] at e); subst e) | (intro _ _ e e'; (first | rw [qqY] at e | rw [qqZ] at e); subst e; subst e'))))
      refine qqF ?_
      refine hK1 _ _ _ _ _ (LeB [0, 1, 2, 3] (by refine ⟨?_, ?_, ?_⟩ <;> simp only [leFr, leFb, leHp, V.ren, V.renL, V.bd, V.bdL, allL, lt, Go.Ab.get, hget, List.map_cons, List.map_nil, List.length_cons, List.length_nil, List.length_append, List.getElem?_cons_zero, List.getElem?_cons_succ, List.getElem?_nil, Option.join_some, Option.join_none, List.getD_cons_zero, List.getD_cons_succ, List.getD_nil, Nat.reduceAdd, Nat.reduceLT, Nat.reduceEqDiff, Nat.zero_add, reduceIte, if_true, if_false, and_true, true_and, renL_vcells, allL_vcells, renL_pv, leBlk_some, eq_self, true_or, or_true, reduceCtorEq, false_or, hw, List.length_append, allL, Z8])) (ih (pre ++ [p]) (occP p d.t) (by simp [hpre]) he)
set_option maxHeartbeats 8000000 in
theorem sp_l2 {ds : List Dc} {az : List Tb} {d : Dc} {t : Ty} {tr : Int} {i n : Nat} {xs : List Ty} {r0 r1 : PV} (hn : n ≤ 1000) (hl : d.bs.length ≤ 1099511627776) (hxs : d.ps.length ≤ xs.length)
    (ihn : ∀ (t : Ty) (tr : Int), PCall Try.prog 27 [.list 7 (encDc ds), .list 4 (encTb az), t.enc, ii tr, ii n] (solV (sol ds az n t tr)))
    (hN : solL (sol ds az n) d.ps xs d.bs = none → r0 = zP.enc ∧ r1 = bb false) (hS : ∀ ps, solL (sol ds az n) d.ps xs d.bs = some ps → r0 = (Prf.mk t tr i (-1) xs ps).enc ∧ r1 = bb true)
    {K : Fr → Hp → Prop} {P : Exit → Fr → Hp → Prop}
    (hK : ∀ fr H, awp Try.prog (AC.seq (AC.reg [⟨some 141, .load true 8 (.tmp 21), none⟩, ⟨none, .store 8 (.tmp 10) (.tmp 141), none⟩, ⟨some 11, .mov (.const (.bool true)), none⟩]) AC.ret) P fr H → K fr H)
    (hP : ∀ fr H, retP [RV.cell 10 8 true, RV.tmp 11] [r0, r1] Exit.ret fr H → P Exit.ret fr H) :
    loopN (awp Try.prog ac27_l2) (catch_ 6 (thn K P)) (d.bs.length + 1)
      [(111, .pv (ii 0)), (110, .pv (ii d.bs.length)), (109, .pv (.list 4 (encTb d.bs))), (21, .ptr 4 0 0), (17, .pv (.list 3 (encL xs))), (16, .ptr 3 0 0), (12, .ptr 2 0 0), (10, .ptr 1 0 0), (4, .pv (ii (n + 1 : Nat))), (1, .pv (.list 4 (encTb az))), (0, .pv (.list 7 (encDc ds)))]
      [some (bt t), some bz, some bz, some (bd d), some ⟨false, 30, 8, [[.pv (ii t.kd), .pv (ii t.id), .pv (.list 3 (encL t.args)), .pv (ii tr), .pv (ii i), .pv (ii (-1)), .pv (.list 3 (encL xs)), .pv (.lit (.slice none 0 0))]], none⟩] := by
  have hw1 : IntKind.i64.wrap (((n + 1 : Nat) : Int) - 1) = (n : Int) := by rw [IntWalk.i64_in _ (by omega)]; omega
  simp only [bt, bz, bd, Z8]
  have rows : ∀ (rest pre : List Tb) (qs : List Prf), pre ++ rest = d.bs → solL (sol ds az n) d.ps xs pre = some qs → loopN (awp Try.prog ac27_l2) (catch_ 6 (thn K P)) (rest.length + 1)
       [(111, .pv (ii pre.length)), (110, .pv (ii d.bs.length)), (109, .pv (.list 4 (encTb d.bs))), (21, .ptr 4 0 0), (17, .pv (.list 3 (encL xs))), (16, .ptr 3 0 0), (12, .ptr 2 0 0), (10, .ptr 1 0 0), (4, .pv (ii (n + 1 : Nat))), (1, .pv (.list 4 (encTb az))), (0, .pv (.list 7 (encDc ds)))]
       [some ⟨false, 26, 3, [[.pv (ii t.kd), .pv (ii t.id), .pv (.list 3 (encL t.args))]], none⟩, some ⟨false, 30, 8, [[.pv (ii 0), .pv (ii 0), .pv (.lit (.slice none 0 0)), .pv (ii 0), .pv (ii 0), .pv (ii 0), .pv (.lit (.slice none 0 0)), .pv (.lit (.slice none 0 0))]], none⟩, some ⟨false, 30, 8, [[.pv (ii 0), .pv (ii 0), .pv (.lit (.slice none 0 0)), .pv (ii 0), .pv (ii 0), .pv (ii 0), .pv (.lit (.slice none 0 0)), .pv (.lit (.slice none 0 0))]], none⟩,
        some ⟨false, 40, 7, [[.pv (.list 1 (encI d.ps)), .pv (ii d.t.kd), .pv (ii d.t.id), .pv (.list 3 (encL d.t.args)), .pv (ii d.tr), .pv (.list 4 (encTb d.bs)), .pv d.ms]], none⟩,
        some ⟨false, 30, 8, [[.pv (ii t.kd), .pv (ii t.id), .pv (.list 3 (encL t.args)), .pv (ii tr), .pv (ii i), .pv (ii (-1)), .pv (.list 3 (encL xs)), .row 5 qs.length false]], none⟩, some ⟨false, 30, 8, qs.map Prf.tc, none⟩] := by
    intro rest
    induction rest with
    | nil =>
      intro pre qs hpre hq
      have hpre : pre = d.bs := by simpa using hpre
      rw [hpre] at hq
      obtain ⟨rfl, rfl⟩ := hS _ hq
      have hlt : decide ((pre.length : Int) < (d.bs.length : Int)) = false := by rw [hpre]; exact lt_end _
      refine loopN_k fun K1 hK1 => ?_
      unfold ac27_l2
      (repeat' (first | ((with_reducible first | refine qqT fun C hC => ?_ | refine qqU fun C hC => ?_ | intro C hC); simp only [go_sem, hlt]; ((with_reducible first | refine finA hC ?_ | refine finD hC ?_); clear hC C)) | (with_reducible first | refine qqA fun K hK => ?_ | refine qqB fun K hK => ?_ | refine qqC fun K hK => ?_ | (refine qqD ?_; refine hK _ _ ?_; try clear hK K) | (refine qqE ?_; refine hK _ _ _ ?_ ?_; (focus kernel_rfl); try clear hK K) | (refine qqF ?_; refine hK _ _ ?_; try clear hK K) | refine qqG ?_ | refine qqH ?_ | refine qqI ?_ | refine qqJ ?_ | refine qqK ?_ | (refine qqL ?_; try clear hK K) | (refine qqM ?_; try clear hK K) | refine qqN ?_ | refine qqO ?_ | (refine qqP ?_ ?_; focus decide)) | ((with_reducible first | apply qqQ | apply qqR | apply qqS); focus (simp only [go_sem, hlt]; exact rfl)) | (with_reducible first | refine gk_tt ?_ | refine gk_ff ?_ | refine ck_t ?_ | refine ck_f ?_) | ((with_reducible first | refine gk_tf ?_ | refine gk_ft ?_ | refine gk_u ?_ | refine gk_u' ?_); first | (intro _ e; (first | rw [qqY] at e | rw [qqZ] at e); subst e) | (intro _ _ e e'; (first | rw [qqY] at e | rw [qqZ] at e); subst e; subst e'))))
      refine hP _ _ ?_
      refine retP_ret (List.range 40) rfl ?_
      simp only [Prf.enc]
      refine .cons _ _ _ _ (.agg _ _ ?_) (.cons _ _ _ _ (.pv _) .nil)
      exact .cons _ _ _ _ (.pv _) (.cons _ _ _ _ (.pv _) (.cons _ _ _ _ (.pv _) (.cons _ _ _ _ (.pv _) (.cons _ _ _ _ (.pv _) (.cons _ _ _ _ (.pv _) (.cons _ _ _ _ (.pv _) (.cons _ _ _ _ (row_prf (by decide) rfl rfl) .nil)))))))
    | cons b rest ih =>
      intro pre qs hpre hq
      have hlt : decide ((pre.length : Int) < (d.bs.length : Int)) = true := by rw [← hpre]; exact lt_app _ _ _
      have hbt : (encTb d.bs)[pre.length]? = some b.enc := by rw [← hpre]; exact encTb_at _ _ _
      have hb : pre.length + 1 ≤ big := by have := congrArg List.length hpre; simp at this; unfold big; omega
      have hw := wrapS (n := pre.length) (by unfold big at hb; omega)
      have hql := solL_len hq
      have hqb : qs.length + 1 ≤ big := by omega
      have hap := ra_ok d.ps xs b.t
      rw [raT_eq hxs, eq_enc b.t, eq_enc (appT d.ps xs b.t)] at hap
      have hc := ihn (appT d.ps xs b.t) b.tr
      rw [eq_enc (appT d.ps xs b.t)] at hc
      have hsa := solL_app (b := b) (rest := rest) hq
      rw [hpre] at hsa
      refine loopN_k fun K1 hK1 => ?_
      unfold ac27_l2
      cases hr : sol ds az n (appT d.ps xs b.t) b.tr with
      | none =>
        rw [hr] at hc hsa
        obtain ⟨rfl, rfl⟩ := hN hsa
        simp only [solV] at hc
        (repeat' (first | ((first | (with_reducible refine qqV fun C hC => ?_) | (with_reducible refine qqW fun C hC => ?_) | ((with_reducible intro C hC); (with_reducible refine qqX ?_))); (first | (simp only [go_sem, hlt, hbt, pcells_tb, cells_enc, Ty.tc, hw1, cells_prf, Prf.tc, scal_prf]; (first | ((with_reducible apply ACall.pure0 [] (hap)); (focus (exact vwA))) | ((with_reducible apply ACall.pure0 [] (hc)); (focus (exact vwA)))))); (simp only [go_sem, hlt, hbt, pcells_tb, cells_enc, Ty.tc, hw1, cells_prf, Prf.tc, scal_prf]); ((with_reducible first | refine finA hC ?_ | refine finD hC ?_); clear hC C)) | ((with_reducible first | refine qqT fun C hC => ?_ | refine qqU fun C hC => ?_ | intro C hC); simp only [go_sem, hlt, hbt, pcells_tb, cells_enc, Ty.tc, hw1, cells_prf, Prf.tc, scal_prf]; ((with_reducible first | refine finA hC ?_ | refine finD hC ?_); clear hC C)) | (with_reducible first | refine qqA fun K hK => ?_ | refine qqB fun K hK => ?_ | refine qqC fun K hK => ?_ | (refine qqD ?_; refine hK _ _ ?_; try clear hK K) | (refine qqE ?_; refine hK _ _ _ ?_ ?_; (focus kernel_rfl); try clear hK K) | (refine qqF ?_; refine hK _ _ ?_; try clear hK K) | refine qqG ?_ | refine qqH ?_ | refine qqI ?_ | refine qqJ ?_ | refine qqK ?_ | (refine qqL ?_; try clear hK K) | (refine qqM ?_; try clear hK K) | refine qqN ?_ | refine qqO ?_ | (refine qqP ?_ ?_; focus decide)) | ((with_reducible first | apply qqQ | apply qqR | apply qqS); focus (simp only [go_sem, hlt, hbt, pcells_tb, cells_enc, Ty.tc, hw1, cells_prf, Prf.tc, scal_prf]; exact rfl)) | (with_reducible first | refine gk_tt ?_ | refine gk_ff ?_ | refine ck_t ?_ | refine ck_f ?_) | ((with_reducible first | refine gk_tf ?_ | refine gk_ft ?_ | refine gk_u ?_ | refine gk_u' ?_); first | (intro _ e; (first | rw [qqY] at e | rw [qqZ] at e); subst e) | (intro _ _ e e'; (first | rw [qqY] at e | rw [qqZ] at e); subst e; subst e'))))
        refine hP _ _ ?_
        (refine retP_ret (List.range 40) rfl ?_; (try simp only [zP, Prf.enc, encL, encPf, zT, if_true, if_false, Bool.false_eq_true, Bool.not_true, Bool.not_false]); exact vwA)
      | some q =>
        rw [hr] at hc
        simp only [solV] at hc
        have hq2 : solL (sol ds az n) d.ps xs (pre ++ [b]) = some (qs ++ [q]) := by
          rw [solL_app (b := b) (rest := []) hq, hr]; simp [solL]
        (repeat' (first | ((first | (with_reducible refine qqV fun C hC => ?_) | (with_reducible refine qqW fun C hC => ?_) | ((with_reducible intro C hC); (with_reducible refine qqX ?_))); (first | (simp only [go_sem, hlt, hbt, pcells_tb, cells_enc, Ty.tc, hw1, cells_prf, Prf.tc, scal_prf, List.length_map, hqb]; (first | ((with_reducible apply ACall.pure0 [] (hap)); (focus (exact vwA))) | ((with_reducible apply ACall.pure0 [] (hc)); (focus (exact vwA)))))); (simp only [go_sem, hlt, hbt, pcells_tb, cells_enc, Ty.tc, hw1, cells_prf, Prf.tc, scal_prf, List.length_map, hqb]); ((with_reducible first | refine finA hC ?_ | refine finD hC ?_); clear hC C)) | ((with_reducible first | refine qqT fun C hC => ?_ | refine qqU fun C hC => ?_ | intro C hC); simp only [go_sem, hlt, hbt, pcells_tb, cells_enc, Ty.tc, hw1, cells_prf, Prf.tc, scal_prf, List.length_map, hqb]; ((with_reducible first | refine finA hC ?_ | refine finD hC ?_); clear hC C)) | (with_reducible first | refine qqA fun K hK => ?_ | refine qqB fun K hK => ?_ | refine qqC fun K hK => ?_ | (refine qqD ?_; refine hK _ _ ?_; try clear hK K) | (refine qqE ?_; refine hK _ _ _ ?_ ?_; (focus kernel_rfl); try clear hK K) | (refine qqF ?_; refine hK _ _ ?_; try clear hK K) | refine qqG ?_ | refine qqH ?_ | refine qqI ?_ | refine qqJ ?_ | refine qqK ?_ | (refine qqL ?_; try clear hK K) | (refine qqM ?_; try clear hK K) | refine qqN ?_ | refine qqO ?_ | (refine qqP ?_ ?_; focus decide)) | ((with_reducible first | apply qqQ | apply qqR | apply qqS); focus (simp only [go_sem, hlt, hbt, pcells_tb, cells_enc, Ty.tc, hw1, cells_prf, Prf.tc, scal_prf, List.length_map, hqb]; exact rfl)) | (with_reducible first | refine gk_tt ?_ | refine gk_ff ?_ | refine ck_t ?_ | refine ck_f ?_) | ((with_reducible first | refine gk_tf ?_ | refine gk_ft ?_ | refine gk_u ?_ | refine gk_u' ?_); first | (intro _ e; (first | rw [qqY] at e | rw [qqZ] at e); subst e) | (intro _ _ e e'; (first | rw [qqY] at e | rw [qqZ] at e); subst e; subst e'))))
        refine qqF ?_
        refine hK1 _ _ _ _ _ (LeB [0, 1, 2, 3, 4, 25] (by refine ⟨?_, ?_, ?_⟩ <;> simp only [leFr, leFb, leHp, V.ren, V.renL, V.bd, V.bdL, allL, lt, Go.Ab.get, hget, List.map_cons, List.map_nil, List.length_cons, List.length_nil, List.length_append, List.getElem?_cons_zero, List.getElem?_cons_succ, List.getElem?_nil, Option.join_some, Option.join_none, List.getD_cons_zero, List.getD_cons_succ, List.getD_nil, Nat.reduceAdd, Nat.reduceLT, Nat.reduceEqDiff, Nat.zero_add, reduceIte, if_true, if_false, and_true, true_and, renL_vcells, allL_vcells, renL_pv, leBlk_some, eq_self, true_or, or_true, reduceCtorEq, false_or, hw, List.length_append, renL_ptc, allL_ptc, List.map_append, Prf.tc, allL_app, allL])) (ih (pre ++ [b]) (qs ++ [q]) (by simp [hpre]) hq2)
  cases hbb : d.bs with
  | nil =>
    rw [hbb] at hS
    obtain ⟨rfl, rfl⟩ := hS [] rfl
    refine loopN_k fun K1 hK1 => ?_
    unfold ac27_l2
    (repeat' (first | ((with_reducible first | refine qqT fun C hC => ?_ | refine qqU fun C hC => ?_ | intro C hC); simp only [go_sem, hbb, List.length_nil, Int.ofNat_zero]; ((with_reducible first | refine finA hC ?_ | refine finD hC ?_); clear hC C)) | (with_reducible first | refine qqA fun K hK => ?_ | refine qqB fun K hK => ?_ | refine qqC fun K hK => ?_ | (refine qqD ?_; refine hK _ _ ?_; try clear hK K) | (refine qqE ?_; refine hK _ _ _ ?_ ?_; (focus kernel_rfl); try clear hK K) | (refine qqF ?_; refine hK _ _ ?_; try clear hK K) | refine qqG ?_ | refine qqH ?_ | refine qqI ?_ | refine qqJ ?_ | refine qqK ?_ | (refine qqL ?_; try clear hK K) | (refine qqM ?_; try clear hK K) | refine qqN ?_ | refine qqO ?_ | (refine qqP ?_ ?_; focus decide)) | ((with_reducible first | apply qqQ | apply qqR | apply qqS); focus (simp only [go_sem, hbb, List.length_nil, Int.ofNat_zero]; exact rfl)) | (with_reducible first | refine gk_tt ?_ | refine gk_ff ?_ | refine ck_t ?_ | refine ck_f ?_) | ((with_reducible first | refine gk_tf ?_ | refine gk_ft ?_ | refine gk_u ?_ | refine gk_u' ?_); first | (intro _ e; (first | rw [qqY] at e | rw [qqZ] at e); subst e) | (intro _ _ e e'; (first | rw [qqY] at e | rw [qqZ] at e); subst e; subst e'))))
    refine hP _ _ ?_
    (refine retP_ret (List.range 40) rfl ?_; (try simp only [Prf.enc, encL, encPf, if_true, if_false, Bool.false_eq_true, Bool.not_true, Bool.not_false]); exact vwA)
  | cons b rest =>
    have hlt : decide ((0 : Int) < (((b :: rest).length : Nat) : Int)) = true := by simp
    have hbt : (encTb (b :: rest))[0]? = some b.enc := rfl
    have hap := ra_ok d.ps xs b.t
    rw [raT_eq hxs, eq_enc b.t, eq_enc (appT d.ps xs b.t)] at hap
    have hc := ihn (appT d.ps xs b.t) b.tr
    rw [eq_enc (appT d.ps xs b.t)] at hc
    have hsa := solL_app (f := sol ds az n) (ps := d.ps) (xs := xs) (b := b) (pre := []) (rest := rest) (qs := []) rfl
    rw [List.nil_append] at hsa
    rw [hbb] at hN hS rows
    refine loopN_k fun K1 hK1 => ?_
    unfold ac27_l2
    cases hr : sol ds az n (appT d.ps xs b.t) b.tr with
    | none =>
      rw [hr] at hc hsa
      obtain ⟨rfl, rfl⟩ := hN hsa
      simp only [solV] at hc
      (repeat' (first | ((first | (with_reducible refine qqV fun C hC => ?_) | (with_reducible refine qqW fun C hC => ?_) | ((with_reducible intro C hC); (with_reducible refine qqX ?_))); (first | (simp only [go_sem, hlt, hbt, pcells_tb, cells_enc, Ty.tc, hw1, cells_prf, Prf.tc, scal_prf]; (first | ((with_reducible apply ACall.pure0 [] (hap)); (focus (exact vwA))) | ((with_reducible apply ACall.pure0 [] (hc)); (focus (exact vwA)))))); (simp only [go_sem, hlt, hbt, pcells_tb, cells_enc, Ty.tc, hw1, cells_prf, Prf.tc, scal_prf]); ((with_reducible first | refine finA hC ?_ | refine finD hC ?_); clear hC C)) | ((with_reducible first | refine qqT fun C hC => ?_ | refine qqU fun C hC => ?_ | intro C hC); simp only [go_sem, hlt, hbt, pcells_tb, cells_enc, Ty.tc, hw1, cells_prf, Prf.tc, scal_prf]; ((with_reducible first | refine finA hC ?_ | refine finD hC ?_); clear hC C)) | (with_reducible first | refine qqA fun K hK => ?_ | refine qqB fun K hK => ?_ | refine qqC fun K hK => ?_ | (refine qqD ?_; refine hK _ _ ?_; try clear hK K) | (refine qqE ?_; refine hK _ _ _ ?_ ?_; (focus kernel_rfl); try clear hK K) | (refine qqF ?_; refine hK _ _ ?_; try clear hK K) | refine qqG ?_ | refine qqH ?_ | refine qqI ?_ | refine qqJ ?_ | refine qqK ?_ | (refine qqL ?_; try clear hK K) | (refine qqM ?_; try clear hK K) | refine qqN ?_ | refine qqO ?_ | (refine qqP ?_ ?_; focus decide)) | ((with_reducible first | apply qqQ | apply qqR | apply qqS); focus (simp only [go_sem, hlt, hbt, pcells_tb, cells_enc, Ty.tc, hw1, cells_prf, Prf.tc, scal_prf]; exact rfl)) | (with_reducible first | refine gk_tt ?_ | refine gk_ff ?_ | refine ck_t ?_ | refine ck_f ?_) | ((with_reducible first | refine gk_tf ?_ | refine gk_ft ?_ | refine gk_u ?_ | refine gk_u' ?_); first | (intro _ e; (first | rw [qqY] at e | rw [qqZ] at e); subst e) | (intro _ _ e e'; (first | rw [qqY] at e | rw [qqZ] at e); subst e; subst e'))))
      refine hP _ _ ?_
      (refine retP_ret (List.range 40) rfl ?_; (try simp only [zP, Prf.enc, encL, encPf, zT, if_true, if_false, Bool.false_eq_true, Bool.not_true, Bool.not_false]); exact vwA)
    | some q =>
      rw [hr] at hc
      simp only [solV] at hc
      have hq2 : solL (sol ds az n) d.ps xs [b] = some [q] := by simp [solL, hr]
      (repeat' (first | ((first | (with_reducible refine qqV fun C hC => ?_) | (with_reducible refine qqW fun C hC => ?_) | ((with_reducible intro C hC); (with_reducible refine qqX ?_))); (first | (simp only [go_sem, hlt, hbt, pcells_tb, cells_enc, Ty.tc, hw1, cells_prf, Prf.tc, scal_prf]; (first | ((with_reducible apply ACall.pure0 [] (hap)); (focus (exact vwA))) | ((with_reducible apply ACall.pure0 [] (hc)); (focus (exact vwA)))))); (simp only [go_sem, hlt, hbt, pcells_tb, cells_enc, Ty.tc, hw1, cells_prf, Prf.tc, scal_prf]); ((with_reducible first | refine finA hC ?_ | refine finD hC ?_); clear hC C)) | ((with_reducible first | refine qqT fun C hC => ?_ | refine qqU fun C hC => ?_ | intro C hC); simp only [go_sem, hlt, hbt, pcells_tb, cells_enc, Ty.tc, hw1, cells_prf, Prf.tc, scal_prf]; ((with_reducible first | refine finA hC ?_ | refine finD hC ?_); clear hC C)) | (with_reducible first | refine qqA fun K hK => ?_ | refine qqB fun K hK => ?_ | refine qqC fun K hK => ?_ | (refine qqD ?_; refine hK _ _ ?_; try clear hK K) | (refine qqE ?_; refine hK _ _ _ ?_ ?_; (focus kernel_rfl); try clear hK K) | (refine qqF ?_; refine hK _ _ ?_; try clear hK K) | refine qqG ?_ | refine qqH ?_ | refine qqI ?_ | refine qqJ ?_ | refine qqK ?_ | (refine qqL ?_; try clear hK K) | (refine qqM ?_; try clear hK K) | refine qqN ?_ | refine qqO ?_ | (refine qqP ?_ ?_; focus decide)) | ((with_reducible first | apply qqQ | apply qqR | apply qqS); focus (simp only [go_sem, hlt, hbt, pcells_tb, cells_enc, Ty.tc, hw1, cells_prf, Prf.tc, scal_prf]; exact rfl)) | (with_reducible first | refine gk_tt ?_ | refine gk_ff ?_ | refine ck_t ?_ | refine ck_f ?_) | ((with_reducible first | refine gk_tf ?_ | refine gk_ft ?_ | refine gk_u ?_ | refine gk_u' ?_); first | (intro _ e; (first | rw [qqY] at e | rw [qqZ] at e); subst e) | (intro _ _ e e'; (first | rw [qqY] at e | rw [qqZ] at e); subst e; subst e'))))
      refine qqF ?_
      refine hK1 _ _ _ _ _ (LeB [0, 1, 2, 3, 4, 24] (by refine ⟨?_, ?_, ?_⟩ <;> simp only [leFr, leFb, leHp, V.ren, V.renL, V.bd, V.bdL, allL, lt, Go.Ab.get, hget, List.map_cons, List.map_nil, List.length_cons, List.length_nil, List.length_append, List.getElem?_cons_zero, List.getElem?_cons_succ, List.getElem?_nil, Option.join_some, Option.join_none, List.getD_cons_zero, List.getD_cons_succ, List.getD_nil, Nat.reduceAdd, Nat.reduceLT, Nat.reduceEqDiff, Nat.zero_add, reduceIte, if_true, if_false, and_true, true_and, renL_vcells, allL_vcells, renL_pv, leBlk_some, eq_self, true_or, or_true, reduceCtorEq, false_or, wrap01, renL_ptc, allL_ptc, List.map_cons, List.map_nil, Prf.tc, allL_app, allL])) (rows rest [b] [q] rfl hq2)
end Go.Proofs.Ytbdoblgofddhdaa
/- Traits: the reference's search answers as the program's. -/
set_option maxRecDepth 10000
set_option linter.unusedSimpArgs false
set_option linter.unusedVariables false
namespace Go.Proofs.Ytbdoblgofddhdaa
open Go Go.Ab
theorem okD_allO {t : Ty} {tr : Int} {d : Dc} (h : (d.tr == tr) = true) : okD t tr d = allO d.t d.ps (matchR d.ps t d.t).1 := by
  unfold okD
  rw [allO_eq, h]
  cases d.ps.any (fun p => !occP p d.t) <;> cases (matchR d.ps t d.t).1 <;> rfl
def solD (ds : List Dc) (az : List Tb) (n : Nat) (t : Ty) (tr : Int) (i : Nat) (xs : List Ty) (d : Dc) : Option Prf :=
  if decide ((d.bs.length : Int) > 4) then none else match solL (sol ds az n) d.ps xs d.bs with
    | none => none
    | some ps => some (.mk t tr i (-1) xs ps)
set_option maxHeartbeats 8000000 in
theorem sp_l3 {ds : List Dc} {az : List Tb} {t : Ty} {tr : Int} {n : Nat} {r0 r1 : PV} (hn : n ≤ 1000) (hdl : ds.length ≤ 1099511627776) (hbs : ∀ d ∈ ds, d.bs.length ≤ 1099511627776 ∧ d.ps.length ≤ 1099511627776) (hds : ∀ d ∈ ds, nds d.t ≤ 1099511627776)
    (ihn : ∀ (t : Ty) (tr : Int), PCall Try.prog 27 [.list 7 (encDc ds), .list 4 (encTb az), t.enc, ii tr, ii n] (solV (sol ds az n t tr)))
    (hN : mImp t tr ds 0 = none → r0 = zP.enc ∧ r1 = bb false) (hS : ∀ i xs d, mImp t tr ds 0 = some (i, xs) → ds[i]? = some d → solV (solD ds az n t tr i xs d) = .tup [r0, r1])
    {K : Fr → Hp → Prop}
    (hK : ∀ fr H, awp Try.prog (AC.seq (AC.reg [⟨some 143, .load true 8 (.tmp 12), none⟩, ⟨none, .store 8 (.tmp 10) (.tmp 143), none⟩, ⟨some 11, .mov (.const (.bool false)), none⟩]) AC.ret) (retP [RV.cell 10 8 true, RV.tmp 11] [r0, r1]) fr H → K fr H) :
    ∀ (rest pre : List Dc), pre ++ rest = ds → mImp t tr ds 0 = mImp t tr rest pre.length → loopN (awp Try.prog ac27_l3) (catch_ 2 (thn K (retP [RV.cell 10 8 true, RV.tmp 11] [r0, r1]))) (rest.length + 1)
      [(63, .pv (ii pre.length)), (62, .pv (ii ds.length)), (61, .pv (.list 7 (encDc ds))), (12, .ptr 2 0 0), (10, .ptr 1 0 0), (7, .ptr 0 0 0), (4, .pv (ii (n + 1 : Nat))), (3, .pv (ii tr)), (1, .pv (.list 4 (encTb az))), (0, .pv (.list 7 (encDc ds)))]
      [some ⟨false, 26, 3, [[.pv (ii t.kd), .pv (ii t.id), .pv (.list 3 (encL t.args))]], none⟩, some ⟨false, 30, 8, [[.pv (ii 0), .pv (ii 0), .pv (.lit (.slice none 0 0)), .pv (ii 0), .pv (ii 0), .pv (ii 0), .pv (.lit (.slice none 0 0)), .pv (.lit (.slice none 0 0))]], none⟩, some ⟨false, 30, 8, [[.pv (ii 0), .pv (ii 0), .pv (.lit (.slice none 0 0)), .pv (ii 0), .pv (ii 0), .pv (ii 0), .pv (.lit (.slice none 0 0)), .pv (.lit (.slice none 0 0))]], none⟩] := by
  intro rest
  induction rest with
  | nil =>
    intro pre hpre he
    have hpre : pre = ds := by simpa using hpre
    have hlt : decide ((pre.length : Int) < (ds.length : Int)) = false := by rw [hpre]; exact lt_end _
    obtain ⟨rfl, rfl⟩ := hN (by rw [he]; rfl)
    refine loopN_k fun K1 hK1 => ?_
    unfold ac27_l3
    (repeat' (first | ((with_reducible first | refine qqT fun C hC => ?_ | refine qqU fun C hC => ?_ | intro C hC); simp only [go_sem, hlt]; ((with_reducible first | refine finA hC ?_ | refine finD hC ?_); clear hC C)) | (with_reducible first | refine qqA fun K hK => ?_ | refine qqB fun K hK => ?_ | refine qqC fun K hK => ?_ | (refine qqD ?_; refine hK _ _ ?_; try clear hK K) | (refine qqE ?_; refine hK _ _ _ ?_ ?_; (focus kernel_rfl); try clear hK K) | (refine qqF ?_; refine hK _ _ ?_; try clear hK K) | refine qqG ?_ | refine qqH ?_ | refine qqI ?_ | refine qqJ ?_ | refine qqK ?_ | (refine qqL ?_; try clear hK K) | (refine qqM ?_; try clear hK K) | refine qqN ?_ | refine qqO ?_ | (refine qqP ?_ ?_; focus decide)) | ((with_reducible first | apply qqQ | apply qqR | apply qqS); focus (simp only [go_sem, hlt]; exact rfl)) | (with_reducible first | refine gk_tt ?_ | refine gk_ff ?_ | refine ck_t ?_ | refine ck_f ?_) | ((with_reducible first | refine gk_tf ?_ | refine gk_ft ?_ | refine gk_u ?_ | refine gk_u' ?_); first | (intro _ e; (first | rw [qqY] at e | rw [qqZ] at e); subst e) | (intro _ _ e e'; (first | rw [qqY] at e | rw [qqZ] at e); subst e; subst e'))))
    (refine retP_ret (List.range 40) rfl ?_; (try simp only [zP, Prf.enc, encL, encPf, zT, if_true, if_false, Bool.false_eq_true, Bool.not_true, Bool.not_false]); exact vwA)
  | cons d rest ih =>
    intro pre hpre he
    have hlt : decide ((pre.length : Int) < (ds.length : Int)) = true := by rw [← hpre]; exact lt_app _ _ _
    have hat : (encDc ds)[pre.length]? = some d.enc := by rw [← hpre]; exact encDc_at _ _ _
    have hw := wrapS (n := pre.length) (by have := congrArg List.length hpre; simp at this; omega)
    have hd : d ∈ ds := by rw [← hpre]; simp
    have hdi : ds[pre.length]? = some d := by rw [← hpre]; simp
    have hms := ms_ok t d.t d.ps (hds d hd)
    rw [eq_enc t, eq_enc d.t] at hms
    simp only [mImp] at he
    refine loopN_k fun K1 hK1 => ?_
    unfold ac27_l3
    cases htr : (d.tr == tr) with
    | false =>
      have hok : okD t tr d = false := by unfold okD; rw [htr]; rfl
      rw [hok, if_neg (by simp)] at he
      (repeat' (first | ((with_reducible first | refine qqT fun C hC => ?_ | refine qqU fun C hC => ?_ | intro C hC); simp only [go_sem, hlt, hat, pcells_dc, bne, htr]; ((with_reducible first | refine finA hC ?_ | refine finD hC ?_); clear hC C)) | (with_reducible first | refine qqA fun K hK => ?_ | refine qqB fun K hK => ?_ | refine qqC fun K hK => ?_ | (refine qqD ?_; refine hK _ _ ?_; try clear hK K) | (refine qqE ?_; refine hK _ _ _ ?_ ?_; (focus kernel_rfl); try clear hK K) | (refine qqF ?_; refine hK _ _ ?_; try clear hK K) | refine qqG ?_ | refine qqH ?_ | refine qqI ?_ | refine qqJ ?_ | refine qqK ?_ | (refine qqL ?_; try clear hK K) | (refine qqM ?_; try clear hK K) | refine qqN ?_ | refine qqO ?_ | (refine qqP ?_ ?_; focus decide)) | ((with_reducible first | apply qqQ | apply qqR | apply qqS); focus (simp only [go_sem, hlt, hat, pcells_dc, bne, htr]; exact rfl)) | (with_reducible first | refine gk_tt ?_ | refine gk_ff ?_ | refine ck_t ?_ | refine ck_f ?_) | ((with_reducible first | refine gk_tf ?_ | refine gk_ft ?_ | refine gk_u ?_ | refine gk_u' ?_); first | (intro _ e; (first | rw [qqY] at e | rw [qqZ] at e); subst e) | (intro _ _ e e'; (first | rw [qqY] at e | rw [qqZ] at e); subst e; subst e'))))
      refine qqF ?_
      refine hK1 _ _ _ _ _ (LeB [0, 1, 2] (by refine ⟨?_, ?_, ?_⟩ <;> simp only [leFr, leFb, leHp, V.ren, V.renL, V.bd, V.bdL, allL, lt, Go.Ab.get, hget, List.map_cons, List.map_nil, List.length_cons, List.length_nil, List.length_append, List.getElem?_cons_zero, List.getElem?_cons_succ, List.getElem?_nil, Option.join_some, Option.join_none, List.getD_cons_zero, List.getD_cons_succ, List.getD_nil, Nat.reduceAdd, Nat.reduceLT, Nat.reduceEqDiff, Nat.zero_add, reduceIte, if_true, if_false, and_true, true_and, renL_vcells, allL_vcells, renL_pv, leBlk_some, eq_self, true_or, or_true, reduceCtorEq, false_or, hw, List.length_append, allL])) (ih (pre ++ [d]) (by simp [hpre]) (by simpa using he))
    | true =>
      have hok := okD_allO (t := t) htr
      (repeat' (first | ((first | (with_reducible refine qqV fun C hC => ?_) | (with_reducible refine qqW fun C hC => ?_) | ((with_reducible intro C hC); (with_reducible refine qqX ?_))); (first | (simp only [go_sem, hlt, hat, pcells_dc, bne, htr, encI_len]; (first | ((with_reducible apply ACall.pure0 [] (hms)); (focus (exact vwA)))))); (simp only [go_sem, hlt, hat, pcells_dc, bne, htr, encI_len]); ((with_reducible first | refine finA hC ?_ | refine finD hC ?_); clear hC C)) | ((with_reducible first | refine qqT fun C hC => ?_ | refine qqU fun C hC => ?_ | intro C hC); simp only [go_sem, hlt, hat, pcells_dc, bne, htr, encI_len]; ((with_reducible first | refine finA hC ?_ | refine finD hC ?_); clear hC C)) | (with_reducible first | refine qqA fun K hK => ?_ | refine qqB fun K hK => ?_ | refine qqC fun K hK => ?_ | (refine qqD ?_; refine hK _ _ ?_; try clear hK K) | (refine qqE ?_; refine hK _ _ _ ?_ ?_; (focus kernel_rfl); try clear hK K) | (refine qqF ?_; refine hK _ _ ?_; try clear hK K) | refine qqG ?_ | refine qqH ?_ | refine qqI ?_ | refine qqJ ?_ | refine qqK ?_ | (refine qqL ?_; try clear hK K) | (refine qqM ?_; try clear hK K) | refine qqN ?_ | refine qqO ?_ | (refine qqP ?_ ?_; focus decide)) | ((with_reducible first | apply qqQ | apply qqR | apply qqS); focus (simp only [go_sem, hlt, hat, pcells_dc, bne, htr, encI_len]; exact rfl)) | (with_reducible first | refine gk_tt ?_ | refine gk_ff ?_ | refine ck_t ?_ | refine ck_f ?_) | ((with_reducible first | refine gk_tf ?_ | refine gk_ft ?_ | refine gk_u ?_ | refine gk_u' ?_); first | (intro _ e; (first | rw [qqY] at e | rw [qqZ] at e); subst e) | (intro _ _ e e'; (first | rw [qqY] at e | rw [qqZ] at e); subst e; subst e'))))
      refine awp_loop_k _ (LeB [0, 1, 2, 3] (by refine ⟨?_, ?_, ?_⟩ <;> simp only [leFr, leFb, leHp, V.ren, V.renL, V.bd, V.bdL, allL, lt, Go.Ab.get, hget, List.map_cons, List.map_nil, List.length_cons, List.length_nil, List.length_append, List.getElem?_cons_zero, List.getElem?_cons_succ, List.getElem?_nil, Option.join_some, Option.join_none, List.getD_cons_zero, List.getD_cons_succ, List.getD_nil, Nat.reduceAdd, Nat.reduceLT, Nat.reduceEqDiff, Nat.zero_add, reduceIte, if_true, if_false, and_true, true_and, renL_vcells, allL_vcells, renL_pv, leBlk_some, eq_self, true_or, or_true, reduceCtorEq, false_or, c0, bt, bz, bd, Z8, allL])) (sp_l1 (d := d) (t := t) (tr := tr) (ds := ds) (az := az) (i := pre.length) (n := n + 1) (xs := (matchR d.ps t d.t).2) (hbs d hd).2 (b0 := (matchR d.ps t d.t).1) (fun x1 x2 x3 x4 => ?_) d.ps [] _ rfl rfl)
      rw [← hok]
      simp only [bt, bz, bd, Z8]
      cases ho : okD t tr d with
      | false =>
        rw [ho, if_neg (by simp)] at he
        (repeat' (first | ((with_reducible first | refine qqT fun C hC => ?_ | refine qqU fun C hC => ?_ | intro C hC); simp only [go_sem]; ((with_reducible first | refine finA hC ?_ | refine finD hC ?_); clear hC C)) | (with_reducible first | refine qqA fun K hK => ?_ | refine qqB fun K hK => ?_ | refine qqC fun K hK => ?_ | (refine qqD ?_; refine hK _ _ ?_; try clear hK K) | (refine qqE ?_; refine hK _ _ _ ?_ ?_; (focus kernel_rfl); try clear hK K) | (refine qqF ?_; refine hK _ _ ?_; try clear hK K) | refine qqG ?_ | refine qqH ?_ | refine qqI ?_ | refine qqJ ?_ | refine qqK ?_ | (refine qqL ?_; try clear hK K) | (refine qqM ?_; try clear hK K) | refine qqN ?_ | refine qqO ?_ | (refine qqP ?_ ?_; focus decide)) | ((with_reducible first | apply qqQ | apply qqR | apply qqS); focus (simp only [go_sem]; exact rfl)) | (with_reducible first | refine gk_tt ?_ | refine gk_ff ?_ | refine ck_t ?_ | refine ck_f ?_) | ((with_reducible first | refine gk_tf ?_ | refine gk_ft ?_ | refine gk_u ?_ | refine gk_u' ?_); first | (intro _ e; (first | rw [qqY] at e | rw [qqZ] at e); subst e) | (intro _ _ e e'; (first | rw [qqY] at e | rw [qqZ] at e); subst e; subst e'))))
        refine qqF ?_
        refine hK1 _ _ _ _ _ (LeB [0, 1, 2] (by refine ⟨?_, ?_, ?_⟩ <;> simp only [leFr, leFb, leHp, V.ren, V.renL, V.bd, V.bdL, allL, lt, Go.Ab.get, hget, List.map_cons, List.map_nil, List.length_cons, List.length_nil, List.length_append, List.getElem?_cons_zero, List.getElem?_cons_succ, List.getElem?_nil, Option.join_some, Option.join_none, List.getD_cons_zero, List.getD_cons_succ, List.getD_nil, Nat.reduceAdd, Nat.reduceLT, Nat.reduceEqDiff, Nat.zero_add, reduceIte, if_true, if_false, and_true, true_and, renL_vcells, allL_vcells, renL_pv, leBlk_some, eq_self, true_or, or_true, reduceCtorEq, false_or, hw, List.length_append, allL])) (ih (pre ++ [d]) (by simp [hpre]) (by simpa using he))
      | true =>
        rw [ho, if_pos rfl] at he
        have hr := hS _ _ _ he hdi
        unfold solD at hr
        cases h4 : decide ((d.bs.length : Int) > 4) with
        | true =>
          rw [h4, if_pos rfl] at hr
          simp only [solV, PV.tup.injEq, List.cons.injEq, and_true] at hr
          obtain ⟨rfl, rfl⟩ := hr
          (repeat' (first | ((with_reducible first | refine qqT fun C hC => ?_ | refine qqU fun C hC => ?_ | intro C hC); simp only [go_sem, encTb_len, h4]; ((with_reducible first | refine finA hC ?_ | refine finD hC ?_); clear hC C)) | (with_reducible first | refine qqA fun K hK => ?_ | refine qqB fun K hK => ?_ | refine qqC fun K hK => ?_ | (refine qqD ?_; refine hK _ _ ?_; try clear hK K) | (refine qqE ?_; refine hK _ _ _ ?_ ?_; (focus kernel_rfl); try clear hK K) | (refine qqF ?_; refine hK _ _ ?_; try clear hK K) | refine qqG ?_ | refine qqH ?_ | refine qqI ?_ | refine qqJ ?_ | refine qqK ?_ | (refine qqL ?_; try clear hK K) | (refine qqM ?_; try clear hK K) | refine qqN ?_ | refine qqO ?_ | (refine qqP ?_ ?_; focus decide)) | ((with_reducible first | apply qqQ | apply qqR | apply qqS); focus (simp only [go_sem, encTb_len, h4]; exact rfl)) | (with_reducible first | refine gk_tt ?_ | refine gk_ff ?_ | refine ck_t ?_ | refine ck_f ?_) | ((with_reducible first | refine gk_tf ?_ | refine gk_ft ?_ | refine gk_u ?_ | refine gk_u' ?_); first | (intro _ e; (first | rw [qqY] at e | rw [qqZ] at e); subst e) | (intro _ _ e e'; (first | rw [qqY] at e | rw [qqZ] at e); subst e; subst e'))))
          (refine retP_ret (List.range 40) rfl ?_; (try simp only [zP, Prf.enc, encL, encPf, zT, if_true, if_false, Bool.false_eq_true, Bool.not_true, Bool.not_false]); exact vwA)
        | false =>
          rw [h4, if_neg (by simp)] at hr
          (repeat' (first | ((with_reducible first | refine qqT fun C hC => ?_ | refine qqU fun C hC => ?_ | intro C hC); simp only [go_sem, encTb_len, h4]; ((with_reducible first | refine finA hC ?_ | refine finD hC ?_); clear hC C)) | (with_reducible first | refine qqA fun K hK => ?_ | refine qqB fun K hK => ?_ | refine qqC fun K hK => ?_ | (refine qqD ?_; refine hK _ _ ?_; try clear hK K) | (refine qqE ?_; refine hK _ _ _ ?_ ?_; (focus kernel_rfl); try clear hK K) | (refine qqF ?_; refine hK _ _ ?_; try clear hK K) | refine qqG ?_ | refine qqH ?_ | refine qqI ?_ | refine qqJ ?_ | refine qqK ?_ | (refine qqL ?_; try clear hK K) | (refine qqM ?_; try clear hK K) | refine qqN ?_ | refine qqO ?_ | (refine qqP ?_ ?_; focus decide)) | ((with_reducible first | apply qqQ | apply qqR | apply qqS); focus (simp only [go_sem, encTb_len, h4]; exact rfl)) | (with_reducible first | refine gk_tt ?_ | refine gk_ff ?_ | refine ck_t ?_ | refine ck_f ?_) | ((with_reducible first | refine gk_tf ?_ | refine gk_ft ?_ | refine gk_u ?_ | refine gk_u' ?_); first | (intro _ e; (first | rw [qqY] at e | rw [qqZ] at e); subst e) | (intro _ _ e e'; (first | rw [qqY] at e | rw [qqZ] at e); subst e; subst e'))))
          have hmt := (match_app (okD_spec ho).2).1
          refine awp_loop_k _ (LeB [0, 1, 2, 3, 4] (by refine ⟨?_, ?_, ?_⟩ <;> simp only [leFr, leFb, leHp, V.ren, V.renL, V.bd, V.bdL, allL, lt, Go.Ab.get, hget, List.map_cons, List.map_nil, List.length_cons, List.length_nil, List.length_append, List.getElem?_cons_zero, List.getElem?_cons_succ, List.getElem?_nil, Option.join_some, Option.join_none, List.getD_cons_zero, List.getD_cons_succ, List.getD_nil, Nat.reduceAdd, Nat.reduceLT, Nat.reduceEqDiff, Nat.zero_add, reduceIte, if_true, if_false, and_true, true_and, renL_vcells, allL_vcells, renL_pv, leBlk_some, eq_self, true_or, or_true, reduceCtorEq, false_or, c0, bt, bz, bd, Z8, allL])) (sp_l2 (d := d) (t := t) (tr := tr) (ds := ds) (az := az) (i := pre.length) (n := n) (xs := (matchR d.ps t d.t).2) (r0 := r0) (r1 := r1) hn (hbs d hd).1 (by omega) ihn (fun hx => ?_) (fun qs hx => ?_) hK (fun fr H h => ?_))
          · rw [hx] at hr
            simp only [solV, PV.tup.injEq, List.cons.injEq, and_true] at hr
            exact ⟨hr.1.symm, hr.2.symm⟩
          · rw [hx] at hr
            simp only [solV, PV.tup.injEq, List.cons.injEq, and_true] at hr
            exact ⟨hr.1.symm, hr.2.symm⟩
          · (repeat' (first | ((with_reducible first | refine qqT fun C hC => ?_ | refine qqU fun C hC => ?_ | intro C hC); simp only [go_sem]; ((with_reducible first | refine finA hC ?_ | refine finD hC ?_); clear hC C)) | (with_reducible first | refine qqA fun K hK => ?_ | refine qqB fun K hK => ?_ | refine qqC fun K hK => ?_ | (refine qqD ?_; refine hK _ _ ?_; try clear hK K) | (refine qqE ?_; refine hK _ _ _ ?_ ?_; (focus kernel_rfl); try clear hK K) | (refine qqF ?_; refine hK _ _ ?_; try clear hK K) | refine qqG ?_ | refine qqH ?_ | refine qqI ?_ | refine qqJ ?_ | refine qqK ?_ | (refine qqL ?_; try clear hK K) | (refine qqM ?_; try clear hK K) | refine qqN ?_ | refine qqO ?_ | (refine qqP ?_ ?_; focus decide)) | ((with_reducible first | apply qqQ | apply qqR | apply qqS); focus (simp only [go_sem]; exact rfl)) | (with_reducible first | refine gk_tt ?_ | refine gk_ff ?_ | refine ck_t ?_ | refine ck_f ?_) | ((with_reducible first | refine gk_tf ?_ | refine gk_ft ?_ | refine gk_u ?_ | refine gk_u' ?_); first | (intro _ e; (first | rw [qqY] at e | rw [qqZ] at e); subst e) | (intro _ _ e e'; (first | rw [qqY] at e | rw [qqZ] at e); subst e; subst e'))))
            exact h
set_option maxHeartbeats 8000000 in
theorem sp_ok (ds : List Dc) (az : List Tb) (hds : ∀ d ∈ ds, nds d.t ≤ 1099511627776) : ∀ (n : Nat), n ≤ 1000 → ∀ (t : Ty) (tr : Int), PCall Try.prog 27 [.list 7 (encDc ds), .list 4 (encTb az), t.enc, ii tr, ii n] (solV (sol ds az n t tr)) := by
  intro n
  induction n with
  | zero =>
    intro hn t tr
    refine PCall.intro (ps := [zP.enc, bb false]) fn27 (by simp) ?_
    unfold ac27
    simp only [argFr]
    (repeat' (first | ((with_reducible first | refine qqT fun C hC => ?_ | refine qqU fun C hC => ?_ | intro C hC); simp only [go_sem, cells_enc, Ty.tc, c0]; ((with_reducible first | refine finA hC ?_ | refine finD hC ?_); clear hC C)) | (with_reducible first | refine qqA fun K hK => ?_ | refine qqB fun K hK => ?_ | refine qqC fun K hK => ?_ | (refine qqD ?_; refine hK _ _ ?_; try clear hK K) | (refine qqE ?_; refine hK _ _ _ ?_ ?_; (focus kernel_rfl); try clear hK K) | (refine qqF ?_; refine hK _ _ ?_; try clear hK K) | refine qqG ?_ | refine qqH ?_ | refine qqI ?_ | refine qqJ ?_ | refine qqK ?_ | (refine qqL ?_; try clear hK K) | (refine qqM ?_; try clear hK K) | refine qqN ?_ | refine qqO ?_ | (refine qqP ?_ ?_; focus decide)) | ((with_reducible first | apply qqQ | apply qqR | apply qqS); focus (simp only [go_sem, cells_enc, Ty.tc, c0]; exact rfl)) | (with_reducible first | refine gk_tt ?_ | refine gk_ff ?_ | refine ck_t ?_ | refine ck_f ?_) | ((with_reducible first | refine gk_tf ?_ | refine gk_ft ?_ | refine gk_u ?_ | refine gk_u' ?_); first | (intro _ e; (first | rw [qqY] at e | rw [qqZ] at e); subst e) | (intro _ _ e e'; (first | rw [qqY] at e | rw [qqZ] at e); subst e; subst e'))))
    (refine retP_ret (List.range 40) rfl ?_; (try simp only [zP, Prf.enc, encL, encPf, zT, if_true, if_false, Bool.false_eq_true, Bool.not_true, Bool.not_false]); exact vwA)
  | succ n ihn =>
    intro hn t tr
    have ihn := ihn (by omega)
    have hz : decide (((n + 1 : Nat) : Int) < 1) = false := decide_eq_false (by omega)
    have hgen : ∀ r0 r1, solV (sol ds az (n + 1) t tr) = .tup [r0, r1] → PCall Try.prog 27 [.list 7 (encDc ds), .list 4 (encTb az), t.enc, ii tr, ii (n + 1 : Nat)] (.tup [r0, r1]) := by
      intro r0 r1 hR
      have hN : sol ds az (n + 1) t tr = none → r0 = zP.enc ∧ r1 = bb false := fun h => by
        rw [h] at hR; simp only [solV, PV.tup.injEq, List.cons.injEq, and_true] at hR; exact ⟨hR.1.symm, hR.2.symm⟩
      refine PCall.intro' (ps := [r0, r1]) fn27 (by simp) fun hok => ?_
      have hdl : ds.length ≤ 1099511627776 := by
        simp only [PV.okL, PV.ok, encDc_len, big] at hok; exact hok.1.1
      have hal : az.length ≤ 1099511627776 := by
        simp only [PV.okL, PV.ok, encTb_len, big] at hok; exact hok.2.1.1
      have hbs : ∀ d ∈ ds, d.bs.length ≤ 1099511627776 ∧ d.ps.length ≤ 1099511627776 := by
        intro d hd
        simp only [PV.okL, PV.ok, big] at hok
        have : ∀ {l : List Dc}, PV.okL (encDc l) → ∀ d ∈ l, d.bs.length ≤ 1099511627776 ∧ d.ps.length ≤ 1099511627776 := by
          intro l
          induction l with
          | nil => intro _ d hd; cases hd
          | cons x l ih =>
            intro h d hd
            simp only [encDc, List.map_cons, PV.okL] at h
            rcases List.mem_cons.1 hd with rfl | hd
            · have := h.1
              simp only [Dc.enc, PV.ok, PV.okL, encTb_len, encI_len, big] at this
              exact ⟨this.2.2.2.2.2.1.1, this.1.1⟩
            · exact ih h.2 d hd
        exact this hok.1.2 d hd
      clear hok
      unfold ac27
      simp only [argFr]
      cases h1 : decide (tr < 0) with
      | true =>
        obtain ⟨rfl, rfl⟩ := hN (by cases h0 : (t.kd == 0) <;> simp only [sol, h0, h1, if_true, Bool.false_eq_true, if_false])
        (repeat' (first | ((with_reducible first | refine qqT fun C hC => ?_ | refine qqU fun C hC => ?_ | intro C hC); simp only [go_sem, cells_enc, Ty.tc, hz, h1]; ((with_reducible first | refine finA hC ?_ | refine finD hC ?_); clear hC C)) | (with_reducible first | refine qqA fun K hK => ?_ | refine qqB fun K hK => ?_ | refine qqC fun K hK => ?_ | (refine qqD ?_; refine hK _ _ ?_; try clear hK K) | (refine qqE ?_; refine hK _ _ _ ?_ ?_; (focus kernel_rfl); try clear hK K) | (refine qqF ?_; refine hK _ _ ?_; try clear hK K) | refine qqG ?_ | refine qqH ?_ | refine qqI ?_ | refine qqJ ?_ | refine qqK ?_ | (refine qqL ?_; try clear hK K) | (refine qqM ?_; try clear hK K) | refine qqN ?_ | refine qqO ?_ | (refine qqP ?_ ?_; focus decide)) | ((with_reducible first | apply qqQ | apply qqR | apply qqS); focus (simp only [go_sem, cells_enc, Ty.tc, hz, h1]; exact rfl)) | (with_reducible first | refine gk_tt ?_ | refine gk_ff ?_ | refine ck_t ?_ | refine ck_f ?_) | ((with_reducible first | refine gk_tf ?_ | refine gk_ft ?_ | refine gk_u ?_ | refine gk_u' ?_); first | (intro _ e; (first | rw [qqY] at e | rw [qqZ] at e); subst e) | (intro _ _ e e'; (first | rw [qqY] at e | rw [qqZ] at e); subst e; subst e'))))
        (refine retP_ret (List.range 40) rfl ?_; (try simp only [zP, Prf.enc, encL, encPf, zT, if_true, if_false, Bool.false_eq_true, Bool.not_true, Bool.not_false]); exact vwA)
      | false =>
        cases h0 : (t.kd == 0) with
        | true =>
          obtain ⟨rfl, rfl⟩ := hN (by simp [sol, h0])
          (repeat' (first | ((with_reducible first | refine qqT fun C hC => ?_ | refine qqU fun C hC => ?_ | intro C hC); simp only [go_sem, cells_enc, Ty.tc, hz, h0, h1]; ((with_reducible first | refine finA hC ?_ | refine finD hC ?_); clear hC C)) | (with_reducible first | refine qqA fun K hK => ?_ | refine qqB fun K hK => ?_ | refine qqC fun K hK => ?_ | (refine qqD ?_; refine hK _ _ ?_; try clear hK K) | (refine qqE ?_; refine hK _ _ _ ?_ ?_; (focus kernel_rfl); try clear hK K) | (refine qqF ?_; refine hK _ _ ?_; try clear hK K) | refine qqG ?_ | refine qqH ?_ | refine qqI ?_ | refine qqJ ?_ | refine qqK ?_ | (refine qqL ?_; try clear hK K) | (refine qqM ?_; try clear hK K) | refine qqN ?_ | refine qqO ?_ | (refine qqP ?_ ?_; focus decide)) | ((with_reducible first | apply qqQ | apply qqR | apply qqS); focus (simp only [go_sem, cells_enc, Ty.tc, hz, h0, h1]; exact rfl)) | (with_reducible first | refine gk_tt ?_ | refine gk_ff ?_ | refine ck_t ?_ | refine ck_f ?_) | ((with_reducible first | refine gk_tf ?_ | refine gk_ft ?_ | refine gk_u ?_ | refine gk_u' ?_); first | (intro _ e; (first | rw [qqY] at e | rw [qqZ] at e); subst e) | (intro _ _ e e'; (first | rw [qqY] at e | rw [qqZ] at e); subst e; subst e'))))
          (refine retP_ret (List.range 40) rfl ?_; (try simp only [zP, Prf.enc, encL, encPf, zT, if_true, if_false, Bool.false_eq_true, Bool.not_true, Bool.not_false]); exact vwA)
        | false =>
          have hsol : sol ds az (n + 1) t tr = if decide (bdF az t tr ≥ 0) then some (.mk t tr (-1) (bdF az t tr) [] []) else
              match mImp t tr ds 0 with
              | none => none
              | some (i, xs) => match ds[i]? with
                | none => none
                | some d => solD ds az n t tr i xs d := by
            simp only [sol, h0, h1, Bool.false_eq_true, if_false]
            rfl
          rw [hsol] at hR
          clear hN
          (repeat' (first | ((with_reducible first | refine qqT fun C hC => ?_ | refine qqU fun C hC => ?_ | intro C hC); simp only [go_sem, cells_enc, Ty.tc, hz, h0, h1, encTb_len]; ((with_reducible first | refine finA hC ?_ | refine finD hC ?_); clear hC C)) | (with_reducible first | refine qqA fun K hK => ?_ | refine qqB fun K hK => ?_ | refine qqC fun K hK => ?_ | (refine qqD ?_; refine hK _ _ ?_; try clear hK K) | (refine qqE ?_; refine hK _ _ _ ?_ ?_; (focus kernel_rfl); try clear hK K) | (refine qqF ?_; refine hK _ _ ?_; try clear hK K) | refine qqG ?_ | refine qqH ?_ | refine qqI ?_ | refine qqJ ?_ | refine qqK ?_ | (refine qqL ?_; try clear hK K) | (refine qqM ?_; try clear hK K) | refine qqN ?_ | refine qqO ?_ | (refine qqP ?_ ?_; focus decide)) | ((with_reducible first | apply qqQ | apply qqR | apply qqS); focus (simp only [go_sem, cells_enc, Ty.tc, hz, h0, h1, encTb_len]; exact rfl)) | (with_reducible first | refine gk_tt ?_ | refine gk_ff ?_ | refine ck_t ?_ | refine ck_f ?_) | ((with_reducible first | refine gk_tf ?_ | refine gk_ft ?_ | refine gk_u ?_ | refine gk_u' ?_); first | (intro _ e; (first | rw [qqY] at e | rw [qqZ] at e); subst e) | (intro _ _ e e'; (first | rw [qqY] at e | rw [qqZ] at e); subst e; subst e'))))
          have rows : ∀ (rest pre : List Tb), pre ++ rest = az → bdF az t tr = idxF (fun b : Tb => if b.tr == tr then eqT b.t t else false) rest pre.length → loopN (awp Try.prog ac27_l0) (catch_ 0 (thn K (retP [RV.cell 10 8 true, RV.tmp 11] [r0, r1]))) (rest.length + 1)
              [(41, .pv (ii pre.length)), (40, .pv (ii az.length)), (39, .pv (.list 4 (encTb az))), (12, .ptr 2 0 0), (10, .ptr 1 0 0), (7, .ptr 0 0 0), (4, .pv (ii (n + 1 : Nat))), (3, .pv (ii tr)), (1, .pv (.list 4 (encTb az))), (0, .pv (.list 7 (encDc ds)))]
              [some ⟨false, 26, 3, [[.pv (ii t.kd), .pv (ii t.id), .pv (.list 3 (encL t.args))]], none⟩, some ⟨false, 30, 8, [[.pv (ii 0), .pv (ii 0), .pv (.lit (.slice none 0 0)), .pv (ii 0), .pv (ii 0), .pv (ii 0), .pv (.lit (.slice none 0 0)), .pv (.lit (.slice none 0 0))]], none⟩, some ⟨false, 30, 8, [[.pv (ii 0), .pv (ii 0), .pv (.lit (.slice none 0 0)), .pv (ii 0), .pv (ii 0), .pv (ii 0), .pv (.lit (.slice none 0 0)), .pv (.lit (.slice none 0 0))]], none⟩] := by
            intro rest
            induction rest with
            | nil =>
              intro pre hpre he
              have hpre : pre = az := by simpa using hpre
              have hlt : decide ((pre.length : Int) < (az.length : Int)) = false := by rw [hpre]; exact lt_end _
              have hm1 : decide (bdF az t tr ≥ 0) = false := by rw [he]; rfl
              rw [hm1, if_neg (by simp)] at hR
              refine loopN_k fun K1 hK1 => ?_
              unfold ac27_l0
              (repeat' (first | ((with_reducible first | refine qqT fun C hC => ?_ | refine qqU fun C hC => ?_ | intro C hC); simp only [go_sem, hlt, encDc_len]; ((with_reducible first | refine finA hC ?_ | refine finD hC ?_); clear hC C)) | (with_reducible first | refine qqA fun K hK => ?_ | refine qqB fun K hK => ?_ | refine qqC fun K hK => ?_ | (refine qqD ?_; refine hK _ _ ?_; try clear hK K) | (refine qqE ?_; refine hK _ _ _ ?_ ?_; (focus kernel_rfl); try clear hK K) | (refine qqF ?_; refine hK _ _ ?_; try clear hK K) | refine qqG ?_ | refine qqH ?_ | refine qqI ?_ | refine qqJ ?_ | refine qqK ?_ | (refine qqL ?_; try clear hK K) | (refine qqM ?_; try clear hK K) | refine qqN ?_ | refine qqO ?_ | (refine qqP ?_ ?_; focus decide)) | ((with_reducible first | apply qqQ | apply qqR | apply qqS); focus (simp only [go_sem, hlt, encDc_len]; exact rfl)) | (with_reducible first | refine gk_tt ?_ | refine gk_ff ?_ | refine ck_t ?_ | refine ck_f ?_) | ((with_reducible first | refine gk_tf ?_ | refine gk_ft ?_ | refine gk_u ?_ | refine gk_u' ?_); first | (intro _ e; (first | rw [qqY] at e | rw [qqZ] at e); subst e) | (intro _ _ e e'; (first | rw [qqY] at e | rw [qqZ] at e); subst e; subst e'))))
              refine awp_loop_k _ (LeB [0, 1, 2] (by refine ⟨?_, ?_, ?_⟩ <;> simp only [leFr, leFb, leHp, V.ren, V.renL, V.bd, V.bdL, allL, lt, Go.Ab.get, hget, List.map_cons, List.map_nil, List.length_cons, List.length_nil, List.length_append, List.getElem?_cons_zero, List.getElem?_cons_succ, List.getElem?_nil, Option.join_some, Option.join_none, List.getD_cons_zero, List.getD_cons_succ, List.getD_nil, Nat.reduceAdd, Nat.reduceLT, Nat.reduceEqDiff, Nat.zero_add, reduceIte, if_true, if_false, and_true, true_and, renL_vcells, allL_vcells, renL_pv, leBlk_some, eq_self, true_or, or_true, reduceCtorEq, false_or, c0, allL])) (sp_l3 (az := az) (t := t) (tr := tr) (n := n) (r0 := r0) (r1 := r1) (by omega) hdl hbs hds ihn (fun hx => ?_) (fun i xs d hx hd => ?_) hK ds [] rfl rfl)
              · rw [hx] at hR
                simp only [solV, PV.tup.injEq, List.cons.injEq, and_true] at hR
                exact ⟨hR.1.symm, hR.2.symm⟩
              · rw [hx] at hR
                simp only at hR
                rw [hd] at hR
                exact hR
            | cons b rest ih =>
              intro pre hpre he
              have hlt : decide ((pre.length : Int) < (az.length : Int)) = true := by rw [← hpre]; exact lt_app _ _ _
              have hbt : (encTb az)[pre.length]? = some b.enc := by rw [← hpre]; exact encTb_at _ _ _
              have hw := wrapS (n := pre.length) (by have := congrArg List.length hpre; simp at this; omega)
              have hq := equal2_ok b.t t
              rw [eq_enc b.t, eq_enc t] at hq
              refine loopN_k fun K1 hK1 => ?_
              unfold ac27_l0
              cases hb : (b.tr == tr) with
              | false =>
                simp only [idxF, hb, Bool.false_eq_true, if_false] at he
                (repeat' (first | ((with_reducible first | refine qqT fun C hC => ?_ | refine qqU fun C hC => ?_ | intro C hC); simp only [go_sem, hlt, hbt, pcells_tb, hb]; ((with_reducible first | refine finA hC ?_ | refine finD hC ?_); clear hC C)) | (with_reducible first | refine qqA fun K hK => ?_ | refine qqB fun K hK => ?_ | refine qqC fun K hK => ?_ | (refine qqD ?_; refine hK _ _ ?_; try clear hK K) | (refine qqE ?_; refine hK _ _ _ ?_ ?_; (focus kernel_rfl); try clear hK K) | (refine qqF ?_; refine hK _ _ ?_; try clear hK K) | refine qqG ?_ | refine qqH ?_ | refine qqI ?_ | refine qqJ ?_ | refine qqK ?_ | (refine qqL ?_; try clear hK K) | (refine qqM ?_; try clear hK K) | refine qqN ?_ | refine qqO ?_ | (refine qqP ?_ ?_; focus decide)) | ((with_reducible first | apply qqQ | apply qqR | apply qqS); focus (simp only [go_sem, hlt, hbt, pcells_tb, hb]; exact rfl)) | (with_reducible first | refine gk_tt ?_ | refine gk_ff ?_ | refine ck_t ?_ | refine ck_f ?_) | ((with_reducible first | refine gk_tf ?_ | refine gk_ft ?_ | refine gk_u ?_ | refine gk_u' ?_); first | (intro _ e; (first | rw [qqY] at e | rw [qqZ] at e); subst e) | (intro _ _ e e'; (first | rw [qqY] at e | rw [qqZ] at e); subst e; subst e'))))
                refine qqF ?_
                refine hK1 _ _ _ _ _ (LeB [0, 1, 2] (by refine ⟨?_, ?_, ?_⟩ <;> simp only [leFr, leFb, leHp, V.ren, V.renL, V.bd, V.bdL, allL, lt, Go.Ab.get, hget, List.map_cons, List.map_nil, List.length_cons, List.length_nil, List.length_append, List.getElem?_cons_zero, List.getElem?_cons_succ, List.getElem?_nil, Option.join_some, Option.join_none, List.getD_cons_zero, List.getD_cons_succ, List.getD_nil, Nat.reduceAdd, Nat.reduceLT, Nat.reduceEqDiff, Nat.zero_add, reduceIte, if_true, if_false, and_true, true_and, renL_vcells, allL_vcells, renL_pv, leBlk_some, eq_self, true_or, or_true, reduceCtorEq, false_or, hw, List.length_append, allL])) (ih (pre ++ [b]) (by simp [hpre]) (by simpa using he))
              | true =>
                cases hqb : eqT b.t t with
                | false =>
                  rw [hqb] at hq
                  simp only [idxF, hb, hqb, if_true, Bool.false_eq_true, if_false] at he
                  (repeat' (first | ((first | (with_reducible refine qqV fun C hC => ?_) | (with_reducible refine qqW fun C hC => ?_) | ((with_reducible intro C hC); (with_reducible refine qqX ?_))); (first | (simp only [go_sem, hlt, hbt, pcells_tb, hb]; (first | ((with_reducible apply ACall.pure0 [] (hq)); (focus (exact vwA)))))); (simp only [go_sem, hlt, hbt, pcells_tb, hb]); ((with_reducible first | refine finA hC ?_ | refine finD hC ?_); clear hC C)) | ((with_reducible first | refine qqT fun C hC => ?_ | refine qqU fun C hC => ?_ | intro C hC); simp only [go_sem, hlt, hbt, pcells_tb, hb]; ((with_reducible first | refine finA hC ?_ | refine finD hC ?_); clear hC C)) | (with_reducible first | refine qqA fun K hK => ?_ | refine qqB fun K hK => ?_ | refine qqC fun K hK => ?_ | (refine qqD ?_; refine hK _ _ ?_; try clear hK K) | (refine qqE ?_; refine hK _ _ _ ?_ ?_; (focus kernel_rfl); try clear hK K) | (refine qqF ?_; refine hK _ _ ?_; try clear hK K) | refine qqG ?_ | refine qqH ?_ | refine qqI ?_ | refine qqJ ?_ | refine qqK ?_ | (refine qqL ?_; try clear hK K) | (refine qqM ?_; try clear hK K) | refine qqN ?_ | refine qqO ?_ | (refine qqP ?_ ?_; focus decide)) | ((with_reducible first | apply qqQ | apply qqR | apply qqS); focus (simp only [go_sem, hlt, hbt, pcells_tb, hb]; exact rfl)) | (with_reducible first | refine gk_tt ?_ | refine gk_ff ?_ | refine ck_t ?_ | refine ck_f ?_) | ((with_reducible first | refine gk_tf ?_ | refine gk_ft ?_ | refine gk_u ?_ | refine gk_u' ?_); first | (intro _ e; (first | rw [qqY] at e | rw [qqZ] at e); subst e) | (intro _ _ e e'; (first | rw [qqY] at e | rw [qqZ] at e); subst e; subst e'))))
                  refine qqF ?_
                  refine hK1 _ _ _ _ _ (LeB [0, 1, 2] (by refine ⟨?_, ?_, ?_⟩ <;> simp only [leFr, leFb, leHp, V.ren, V.renL, V.bd, V.bdL, allL, lt, Go.Ab.get, hget, List.map_cons, List.map_nil, List.length_cons, List.length_nil, List.length_append, List.getElem?_cons_zero, List.getElem?_cons_succ, List.getElem?_nil, Option.join_some, Option.join_none, List.getD_cons_zero, List.getD_cons_succ, List.getD_nil, Nat.reduceAdd, Nat.reduceLT, Nat.reduceEqDiff, Nat.zero_add, reduceIte, if_true, if_false, and_true, true_and, renL_vcells, allL_vcells, renL_pv, leBlk_some, eq_self, true_or, or_true, reduceCtorEq, false_or, hw, List.length_append, allL])) (ih (pre ++ [b]) (by simp [hpre]) (by simpa using he))
                | true =>
                  rw [hqb] at hq
                  simp only [idxF, hb, hqb, if_true] at he
                  have hge : decide (bdF az t tr ≥ 0) = true := by rw [he]; exact decide_eq_true (by omega)
                  rw [hge, if_pos rfl, he] at hR
                  simp only [solV, PV.tup.injEq, List.cons.injEq, and_true] at hR
                  obtain ⟨rfl, rfl⟩ := hR
                  (repeat' (first | ((first | (with_reducible refine qqV fun C hC => ?_) | (with_reducible refine qqW fun C hC => ?_) | ((with_reducible intro C hC); (with_reducible refine qqX ?_))); (first | (simp only [go_sem, hlt, hbt, pcells_tb, hb]; (first | ((with_reducible apply ACall.pure0 [] (hq)); (focus (exact vwA)))))); (simp only [go_sem, hlt, hbt, pcells_tb, hb]); ((with_reducible first | refine finA hC ?_ | refine finD hC ?_); clear hC C)) | ((with_reducible first | refine qqT fun C hC => ?_ | refine qqU fun C hC => ?_ | intro C hC); simp only [go_sem, hlt, hbt, pcells_tb, hb]; ((with_reducible first | refine finA hC ?_ | refine finD hC ?_); clear hC C)) | (with_reducible first | refine qqA fun K hK => ?_ | refine qqB fun K hK => ?_ | refine qqC fun K hK => ?_ | (refine qqD ?_; refine hK _ _ ?_; try clear hK K) | (refine qqE ?_; refine hK _ _ _ ?_ ?_; (focus kernel_rfl); try clear hK K) | (refine qqF ?_; refine hK _ _ ?_; try clear hK K) | refine qqG ?_ | refine qqH ?_ | refine qqI ?_ | refine qqJ ?_ | refine qqK ?_ | (refine qqL ?_; try clear hK K) | (refine qqM ?_; try clear hK K) | refine qqN ?_ | refine qqO ?_ | (refine qqP ?_ ?_; focus decide)) | ((with_reducible first | apply qqQ | apply qqR | apply qqS); focus (simp only [go_sem, hlt, hbt, pcells_tb, hb]; exact rfl)) | (with_reducible first | refine gk_tt ?_ | refine gk_ff ?_ | refine ck_t ?_ | refine ck_f ?_) | ((with_reducible first | refine gk_tf ?_ | refine gk_ft ?_ | refine gk_u ?_ | refine gk_u' ?_); first | (intro _ e; (first | rw [qqY] at e | rw [qqZ] at e); subst e) | (intro _ _ e e'; (first | rw [qqY] at e | rw [qqZ] at e); subst e; subst e'))))
                  (refine retP_ret (List.range 40) rfl ?_; (try simp only [Prf.enc, encL, encPf, if_true, if_false, Bool.false_eq_true, Bool.not_true, Bool.not_false]); exact vwA)
          refine awp_loop_k _ (LeB [0, 1, 2] (by refine ⟨?_, ?_, ?_⟩ <;> simp only [leFr, leFb, leHp, V.ren, V.renL, V.bd, V.bdL, allL, lt, Go.Ab.get, hget, List.map_cons, List.map_nil, List.length_cons, List.length_nil, List.length_append, List.getElem?_cons_zero, List.getElem?_cons_succ, List.getElem?_nil, Option.join_some, Option.join_none, List.getD_cons_zero, List.getD_cons_succ, List.getD_nil, Nat.reduceAdd, Nat.reduceLT, Nat.reduceEqDiff, Nat.zero_add, reduceIte, if_true, if_false, and_true, true_and, renL_vcells, allL_vcells, renL_pv, leBlk_some, eq_self, true_or, or_true, reduceCtorEq, false_or, c0, allL])) (rows az [] rfl rfl)
    cases h : sol ds az (n + 1) t tr with
    | none => rw [h] at hgen; exact hgen _ _ rfl
    | some p => rw [h] at hgen; exact hgen _ _ rfl
end Go.Proofs.Ytbdoblgofddhdaa
