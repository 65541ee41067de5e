/- R5: joined from ZR5. -/
import Derived.Test.YtiediojibljpiaaVFnU
import Derived.Test.YtiediojibljpiaaVR4
/- addBinding: the walk. -/
set_option maxRecDepth 10000
set_option linter.unusedSimpArgs false
set_option linter.unusedVariables false
namespace Go.Proofs.Ytiediojibljpiaa
open Go Go.Ab
/-- a value is moved, and taken for a pure tree -/
theorem aops_frzmov {P : Program} {fr : Fr} {H : Hp} {K : Fr → Hp → Prop} {d : Nat} {x : Operand} {os : List AOp} (B : List Nat) (p : PV) (hv : Vw (hget H) B (ev (Ab.get fr) x) p) (h : aops P os ((d, .pv p) :: fr) (updL H (frz (hget H) B)) K) : aops P (⟨some d, .mov x, none⟩ :: os) fr H K := by
  refine aops_frz rfl B p fun C hC => ?_
  simp only [go_sem]
  exact hC _ [] [] _ _ hv rfl rfl h
set_option maxHeartbeats 8000000 in
/-- the loop, the result not nil -/
theorem add_rows {s R : List Bd} {v : Int} {t : Ty} (hs : s.length ≤ 1000000) (hR : R.length ≤ 1000001) {K : Fr → Hp → Prop} {Q : Post}
    (hN : ∀ fr (acc : List Bd) ins, R = acc ++ addL ⟨v, t⟩ [] ins → acc.length ≤ 1000001 → Ab.get fr 9 = .pv (bb ins) → Ab.get fr 8 = .row 0 acc.length false → Ab.get fr 7 = .pv (.list 4 (encB [⟨v, t⟩])) → K fr [some (rowB acc)]) :
    ∀ (rest pre acc : List Bd) (ins : Bool), pre ++ rest = s → R = acc ++ addL ⟨v, t⟩ rest ins → loopN (awp Try.prog ac42_l0) (catch_ 0 (thn K Q)) (rest.length + 1)
      [(18, .pv (ii pre.length)), (17, .pv (ii s.length)), (16, .pv (.list 4 (encB s))), (9, .pv (bb ins)), (8, .row 0 acc.length false), (7, .pv (.list 4 (encB [⟨v, t⟩]))), (1, .pv (ii v))] [some (rowB acc)] := by
  intro rest
  induction rest with
  | nil =>
    intro pre acc ins hpre he
    have hpre : pre = s := by simpa using hpre
    subst hpre
    have hal : acc.length ≤ 1000001 := by have := congrArg List.length he; simp only [List.length_append] at this; omega
    refine loopN_k fun K1 hK1 => ?_
    unfold ac42_l0
    (repeat' (first|((with_reducible first|refine qqT fun C hC=>?_|refine qqU fun C hC=>?_|intro C hC);simp only [go_sem, lt_end];((with_reducible first|refine finA hC ?_|refine finD hC ?_);clear hC C))|(with_reducible first|refine qqA fun K hK=>?_|refine qqB fun K hK=>?_|refine qqC fun K hK=>?_|(refine qqD ?_;refine hK _ _ ?_;try clear hK K)|(refine qqE ?_;refine hK _ _ _ ?_ ?_;(focus kernel_rfl);try clear hK K)|(refine qqF ?_;refine hK _ _ ?_;try clear hK K)|refine qqG ?_|refine qqH ?_|refine qqI ?_|refine qqJ ?_|refine qqK ?_|(refine qqL ?_;try clear hK K)|(refine qqM ?_;try clear hK K)|refine qqN ?_|refine qqO ?_|(refine qqP ?_ ?_;focus decide))|((with_reducible first|apply qqQ|apply qqR|apply qqS);focus (simp only [go_sem, lt_end];exact rfl))|(with_reducible first|refine gk_tt ?_|refine gk_ff ?_|refine ck_t ?_|refine ck_f ?_)|((with_reducible first|refine gk_tf ?_|refine gk_ft ?_|refine gk_u ?_|refine gk_u' ?_);first|(intro _ e;(first|rw [qqY] at e|rw [qqZ] at e);subst e)|(intro _ _ e e';(first|rw [qqY] at e|rw [qqZ] at e);subst e;subst e'))))
    exact hN _ acc ins he hal rfl rfl rfl
  | cons b rest ih =>
    intro pre acc ins hpre he
    have hlt : decide ((pre.length : Int) < (s.length : Int)) = true := by rw [← hpre]; exact lt_app _ _ _
    have hat : (encB s)[pre.length]? = some b.enc := by rw [← hpre]; exact encB_at _ _ _
    have hb : pre.length + 1 ≤ big := by have := congrArg List.length hpre; simp at this; unfold big; omega
    have hc := sv_ok [⟨v, t⟩] b.t
    have h0 : (encB [(⟨v, t⟩ : Bd)])[0]? = some (Bd.enc ⟨v, t⟩) := rfl
    have hlen := congrArg List.length he
    have hw := wrapS (n := pre.length) (by unfold big at hb; omega)
    refine loopN_k fun K1 hK1 => ?_
    unfold ac42_l0
    cases hin : (if !ins then decide (b.v > v) else false) with
    | true =>
      have hins : ins = false := by cases ins with
        | false => rfl
        | true => simp at hin
      subst hins
      have hgt : decide (b.v > v) = true := by simpa using hin
      simp only [addL, hgt, Bool.not_false, if_true] at he hlen
      simp only [List.length_append, List.length_cons] at hlen
      have hb1 : acc.length + 1 ≤ big := by unfold big; omega
      have hb2 : acc.length + 1 + 1 ≤ big := by unfold big; omega
      have e1 : addL ⟨v, t⟩ rest true = addL ⟨v, t⟩ rest true := rfl
      generalize hu : subT [⟨v, t⟩] b.t = u at hc he hlen
      (repeat' (first|((first|(with_reducible refine qqV fun C hC=>?_)|(with_reducible refine qqW fun C hC=>?_)|((with_reducible intro C hC);(with_reducible refine qqX ?_)));(first|(simp only [go_sem, hlt, hat, h0, pcells_bd, Bd.enc, hgt, bd_len, List.length_map, List.length_append, hb1, hb2, rowB, cells_enc, Ty.tc];(first|((with_reducible apply ACall.pure0 [] (hc));(focus (exact vwA))))));(simp only [go_sem, hlt, hat, h0, pcells_bd, Bd.enc, hgt, bd_len, List.length_map, List.length_append, hb1, hb2, rowB, cells_enc, Ty.tc]);((with_reducible first|refine finA hC ?_|refine finD hC ?_);clear hC C))|((with_reducible first|refine qqT fun C hC=>?_|refine qqU fun C hC=>?_|intro C hC);simp only [go_sem, hlt, hat, h0, pcells_bd, Bd.enc, hgt, bd_len, List.length_map, List.length_append, hb1, hb2, rowB, cells_enc, Ty.tc];((with_reducible first|refine finA hC ?_|refine finD hC ?_);clear hC C))|(with_reducible first|refine qqA fun K hK=>?_|refine qqB fun K hK=>?_|refine qqC fun K hK=>?_|(refine qqD ?_;refine hK _ _ ?_;try clear hK K)|(refine qqE ?_;refine hK _ _ _ ?_ ?_;(focus kernel_rfl);try clear hK K)|(refine qqF ?_;refine hK _ _ ?_;try clear hK K)|refine qqG ?_|refine qqH ?_|refine qqI ?_|refine qqJ ?_|refine qqK ?_|(refine qqL ?_;try clear hK K)|(refine qqM ?_;try clear hK K)|refine qqN ?_|refine qqO ?_|(refine qqP ?_ ?_;focus decide))|((with_reducible first|apply qqQ|apply qqR|apply qqS);focus (simp only [go_sem, hlt, hat, h0, pcells_bd, Bd.enc, hgt, bd_len, List.length_map, List.length_append, hb1, hb2, rowB, cells_enc, Ty.tc];exact rfl))|(with_reducible first|refine gk_tt ?_|refine gk_ff ?_|refine ck_t ?_|refine ck_f ?_)|((with_reducible first|refine gk_tf ?_|refine gk_ft ?_|refine gk_u ?_|refine gk_u' ?_);first|(intro _ e;(first|rw [qqY] at e|rw [qqZ] at e);subst e)|(intro _ _ e e';(first|rw [qqY] at e|rw [qqZ] at e);subst e;subst e'))))
      refine qqF ?_
      have hrow : List.map Bd.tc acc ++ [[V.pv (ii v), V.pv (ii t.kd), V.pv (ii t.id), V.pv (.list 3 (encL t.args))]] ++ [[V.pv (ii b.v), V.pv (ii u.kd), V.pv (ii u.id), V.pv (.list 3 (encL u.args))]] = (acc ++ [(⟨v, t⟩ : Bd)] ++ [(⟨b.v, u⟩ : Bd)]).map Bd.tc := by simp [Bd.tc]
      have hal : acc.length + 1 + 1 = (acc ++ [⟨v, t⟩] ++ [⟨b.v, u⟩] : List Bd).length := by simp
      rw [hrow, hal]
      refine hK1 _ _ _ _ _ (LeB [13] (by refine ⟨?_, ?_, ?_⟩ <;> simp only [leFr, leFb, leHp, V.ren, V.renL, V.bd, V.bdL, allL, lt, Go.Ab.get, hget, List.map_cons, List.map_nil, List.length_cons, List.length_nil, List.length_append, List.getElem?_cons_zero, List.getElem?_cons_succ, List.getElem?_nil, Option.join_some, Option.join_none, List.getD_cons_zero, List.getD_cons_succ, List.getD_nil, Nat.reduceAdd, Nat.reduceLT, Nat.reduceEqDiff, Nat.zero_add, reduceIte, if_true, if_false, and_true, true_and, renL_vcells, allL_vcells, renL_pv, leBlk_some, eq_self, true_or, or_true, reduceCtorEq, false_or, hw, List.length_append, renL_bd, allL_bd, bb, ii])) (ih (pre ++ [b]) (acc ++ [⟨v, t⟩] ++ [⟨b.v, u⟩]) true (by simp [hpre]) (by rw [he]; simp))
    | false =>
      have e1 : addL ⟨v, t⟩ (b :: rest) ins = ⟨b.v, subT [⟨v, t⟩] b.t⟩ :: addL ⟨v, t⟩ rest ins := by
        rw [addL]; exact if_neg (by rw [hin]; decide)
      rw [e1] at he hlen
      generalize hu : subT [⟨v, t⟩] b.t = u at hc he hlen
      simp only [List.length_append, List.length_cons] at hlen
      have hb1 : acc.length + 1 ≤ big := by unfold big; omega
      have hrow : List.map Bd.tc acc ++ [[V.pv (ii b.v), V.pv (ii u.kd), V.pv (ii u.id), V.pv (.list 3 (encL u.args))]] = (acc ++ [(⟨b.v, u⟩ : Bd)]).map Bd.tc := by simp [Bd.tc]
      have hal : acc.length + 1 = (acc ++ [⟨b.v, u⟩] : List Bd).length := by simp
      cases ins with
      | true =>
        (repeat' (first|((first|(with_reducible refine qqV fun C hC=>?_)|(with_reducible refine qqW fun C hC=>?_)|((with_reducible intro C hC);(with_reducible refine qqX ?_)));(first|(simp only [go_sem, hlt, hat, h0, pcells_bd, Bd.enc, bd_len, List.length_map, List.length_append, hb1, rowB, cells_enc, Ty.tc];(first|((with_reducible apply ACall.pure0 [] (hc));(focus (exact vwA))))));(simp only [go_sem, hlt, hat, h0, pcells_bd, Bd.enc, bd_len, List.length_map, List.length_append, hb1, rowB, cells_enc, Ty.tc]);((with_reducible first|refine finA hC ?_|refine finD hC ?_);clear hC C))|((with_reducible first|refine qqT fun C hC=>?_|refine qqU fun C hC=>?_|intro C hC);simp only [go_sem, hlt, hat, h0, pcells_bd, Bd.enc, bd_len, List.length_map, List.length_append, hb1, rowB, cells_enc, Ty.tc];((with_reducible first|refine finA hC ?_|refine finD hC ?_);clear hC C))|(with_reducible first|refine qqA fun K hK=>?_|refine qqB fun K hK=>?_|refine qqC fun K hK=>?_|(refine qqD ?_;refine hK _ _ ?_;try clear hK K)|(refine qqE ?_;refine hK _ _ _ ?_ ?_;(focus kernel_rfl);try clear hK K)|(refine qqF ?_;refine hK _ _ ?_;try clear hK K)|refine qqG ?_|refine qqH ?_|refine qqI ?_|refine qqJ ?_|refine qqK ?_|(refine qqL ?_;try clear hK K)|(refine qqM ?_;try clear hK K)|refine qqN ?_|refine qqO ?_|(refine qqP ?_ ?_;focus decide))|((with_reducible first|apply qqQ|apply qqR|apply qqS);focus (simp only [go_sem, hlt, hat, h0, pcells_bd, Bd.enc, bd_len, List.length_map, List.length_append, hb1, rowB, cells_enc, Ty.tc];exact rfl))|(with_reducible first|refine gk_tt ?_|refine gk_ff ?_|refine ck_t ?_|refine ck_f ?_)|((with_reducible first|refine gk_tf ?_|refine gk_ft ?_|refine gk_u ?_|refine gk_u' ?_);first|(intro _ e;(first|rw [qqY] at e|rw [qqZ] at e);subst e)|(intro _ _ e e';(first|rw [qqY] at e|rw [qqZ] at e);subst e;subst e'))))
        refine qqF ?_
        rw [hrow, hal]
        refine hK1 _ _ _ _ _ (LeB [11] (by refine ⟨?_, ?_, ?_⟩ <;> simp only [leFr, leFb, leHp, V.ren, V.renL, V.bd, V.bdL, allL, lt, Go.Ab.get, hget, List.map_cons, List.map_nil, List.length_cons, List.length_nil, List.length_append, List.getElem?_cons_zero, List.getElem?_cons_succ, List.getElem?_nil, Option.join_some, Option.join_none, List.getD_cons_zero, List.getD_cons_succ, List.getD_nil, Nat.reduceAdd, Nat.reduceLT, Nat.reduceEqDiff, Nat.zero_add, reduceIte, if_true, if_false, and_true, true_and, renL_vcells, allL_vcells, renL_pv, leBlk_some, eq_self, true_or, or_true, reduceCtorEq, false_or, hw, List.length_append, renL_bd, allL_bd, bb, ii])) (ih (pre ++ [b]) (acc ++ [⟨b.v, u⟩]) true (by simp [hpre]) (by rw [he]; simp))
      | false =>
        have hgt : decide (b.v > v) = false := by simpa using hin
        (repeat' (first|((first|(with_reducible refine qqV fun C hC=>?_)|(with_reducible refine qqW fun C hC=>?_)|((with_reducible intro C hC);(with_reducible refine qqX ?_)));(first|(simp only [go_sem, hlt, hat, h0, pcells_bd, Bd.enc, hgt, bd_len, List.length_map, List.length_append, hb1, rowB, cells_enc, Ty.tc];(first|((with_reducible apply ACall.pure0 [] (hc));(focus (exact vwA))))));(simp only [go_sem, hlt, hat, h0, pcells_bd, Bd.enc, hgt, bd_len, List.length_map, List.length_append, hb1, rowB, cells_enc, Ty.tc]);((with_reducible first|refine finA hC ?_|refine finD hC ?_);clear hC C))|((with_reducible first|refine qqT fun C hC=>?_|refine qqU fun C hC=>?_|intro C hC);simp only [go_sem, hlt, hat, h0, pcells_bd, Bd.enc, hgt, bd_len, List.length_map, List.length_append, hb1, rowB, cells_enc, Ty.tc];((with_reducible first|refine finA hC ?_|refine finD hC ?_);clear hC C))|(with_reducible first|refine qqA fun K hK=>?_|refine qqB fun K hK=>?_|refine qqC fun K hK=>?_|(refine qqD ?_;refine hK _ _ ?_;try clear hK K)|(refine qqE ?_;refine hK _ _ _ ?_ ?_;(focus kernel_rfl);try clear hK K)|(refine qqF ?_;refine hK _ _ ?_;try clear hK K)|refine qqG ?_|refine qqH ?_|refine qqI ?_|refine qqJ ?_|refine qqK ?_|(refine qqL ?_;try clear hK K)|(refine qqM ?_;try clear hK K)|refine qqN ?_|refine qqO ?_|(refine qqP ?_ ?_;focus decide))|((with_reducible first|apply qqQ|apply qqR|apply qqS);focus (simp only [go_sem, hlt, hat, h0, pcells_bd, Bd.enc, hgt, bd_len, List.length_map, List.length_append, hb1, rowB, cells_enc, Ty.tc];exact rfl))|(with_reducible first|refine gk_tt ?_|refine gk_ff ?_|refine ck_t ?_|refine ck_f ?_)|((with_reducible first|refine gk_tf ?_|refine gk_ft ?_|refine gk_u ?_|refine gk_u' ?_);first|(intro _ e;(first|rw [qqY] at e|rw [qqZ] at e);subst e)|(intro _ _ e e';(first|rw [qqY] at e|rw [qqZ] at e);subst e;subst e'))))
        refine qqF ?_
        rw [hrow, hal]
        refine hK1 _ _ _ _ _ (LeB [11] (by refine ⟨?_, ?_, ?_⟩ <;> simp only [leFr, leFb, leHp, V.ren, V.renL, V.bd, V.bdL, allL, lt, Go.Ab.get, hget, List.map_cons, List.map_nil, List.length_cons, List.length_nil, List.length_append, List.getElem?_cons_zero, List.getElem?_cons_succ, List.getElem?_nil, Option.join_some, Option.join_none, List.getD_cons_zero, List.getD_cons_succ, List.getD_nil, Nat.reduceAdd, Nat.reduceLT, Nat.reduceEqDiff, Nat.zero_add, reduceIte, if_true, if_false, and_true, true_and, renL_vcells, allL_vcells, renL_pv, leBlk_some, eq_self, true_or, or_true, reduceCtorEq, false_or, hw, List.length_append, renL_bd, allL_bd, bb, ii])) (ih (pre ++ [b]) (acc ++ [⟨b.v, u⟩]) false (by simp [hpre]) (by rw [he]; simp))
set_option maxHeartbeats 8000000 in
/-- the first round, the result nil -/
theorem add_first {s R : List Bd} {v : Int} {t : Ty} (hs : s.length ≤ 1000000) (hR : R.length ≤ 1000001) (he : R = addL ⟨v, t⟩ s false) {K : Fr → Hp → Prop} {Q : Post}
    (hN0 : ∀ fr, s = [] → Ab.get fr 9 = .pv (bb false) → Ab.get fr 8 = .pv (.lit (.slice none 0 0)) → Ab.get fr 7 = .pv (.list 4 (encB [⟨v, t⟩])) → K fr [])
    (hN : ∀ fr (acc : List Bd) ins, R = acc ++ addL ⟨v, t⟩ [] ins → acc.length ≤ 1000001 → Ab.get fr 9 = .pv (bb ins) → Ab.get fr 8 = .row 0 acc.length false → Ab.get fr 7 = .pv (.list 4 (encB [⟨v, t⟩])) → K fr [some (rowB acc)]) :
    loopN (awp Try.prog ac42_l0) (catch_ 0 (thn K Q)) (s.length + 1)
      [(18, .pv (ii 0)), (17, .pv (ii s.length)), (16, .pv (.list 4 (encB s))), (9, .pv (bb false)), (8, .pv (.lit (.slice none 0 0))), (7, .pv (.list 4 (encB [⟨v, t⟩]))), (1, .pv (ii v))] [] := by
  refine loopN_k fun K1 hK1 => ?_
  unfold ac42_l0
  cases hsc : s with
  | nil =>
    subst hsc
    (repeat' (first|((with_reducible first|refine qqT fun C hC=>?_|refine qqU fun C hC=>?_|intro C hC);simp only [go_sem, lt_zero];((with_reducible first|refine finA hC ?_|refine finD hC ?_);clear hC C))|(with_reducible first|refine qqA fun K hK=>?_|refine qqB fun K hK=>?_|refine qqC fun K hK=>?_|(refine qqD ?_;refine hK _ _ ?_;try clear hK K)|(refine qqE ?_;refine hK _ _ _ ?_ ?_;(focus kernel_rfl);try clear hK K)|(refine qqF ?_;refine hK _ _ ?_;try clear hK K)|refine qqG ?_|refine qqH ?_|refine qqI ?_|refine qqJ ?_|refine qqK ?_|(refine qqL ?_;try clear hK K)|(refine qqM ?_;try clear hK K)|refine qqN ?_|refine qqO ?_|(refine qqP ?_ ?_;focus decide))|((with_reducible first|apply qqQ|apply qqR|apply qqS);focus (simp only [go_sem, lt_zero];exact rfl))|(with_reducible first|refine gk_tt ?_|refine gk_ff ?_|refine ck_t ?_|refine ck_f ?_)|((with_reducible first|refine gk_tf ?_|refine gk_ft ?_|refine gk_u ?_|refine gk_u' ?_);first|(intro _ e;(first|rw [qqY] at e|rw [qqZ] at e);subst e)|(intro _ _ e e';(first|rw [qqY] at e|rw [qqZ] at e);subst e;subst e'))))
    exact hN0 _ rfl rfl rfl rfl
  | cons b rest =>
    subst hsc
    have lt0 : decide ((0 : Int) < ((b :: rest).length : Int)) = true := by simp
    have hat : (encB (b :: rest))[0]? = some b.enc := rfl
    have hc := sv_ok [⟨v, t⟩] b.t
    have h0 : (encB [(⟨v, t⟩ : Bd)])[0]? = some (Bd.enc ⟨v, t⟩) := rfl
    have hb2 : 1 + 1 ≤ big := by unfold big; omega
    have hlen := congrArg List.length he
    cases hin : decide (b.v > v) with
    | true =>
      simp only [addL, hin, Bool.not_false, if_true] at he hlen
      generalize hu : subT [⟨v, t⟩] b.t = u at hc he hlen
      have hrow : [[V.pv (ii v), V.pv (ii t.kd), V.pv (ii t.id), V.pv (.list 3 (encL t.args))], [V.pv (ii b.v), V.pv (ii u.kd), V.pv (ii u.id), V.pv (.list 3 (encL u.args))]] = ([(⟨v, t⟩ : Bd), (⟨b.v, u⟩ : Bd)]).map Bd.tc := by simp [Bd.tc]
      (repeat' (first|((first|(with_reducible refine qqV fun C hC=>?_)|(with_reducible refine qqW fun C hC=>?_)|((with_reducible intro C hC);(with_reducible refine qqX ?_)));(first|(simp only [go_sem, lt0, hat, h0, pcells_bd, Bd.enc, hin, bd_len, List.length_map, List.length_append, hb2, rowB, cells_enc, Ty.tc];(first|((with_reducible apply ACall.pure0 [] (hc));(focus (exact vwA))))));(simp only [go_sem, lt0, hat, h0, pcells_bd, Bd.enc, hin, bd_len, List.length_map, List.length_append, hb2, rowB, cells_enc, Ty.tc]);((with_reducible first|refine finA hC ?_|refine finD hC ?_);clear hC C))|((with_reducible first|refine qqT fun C hC=>?_|refine qqU fun C hC=>?_|intro C hC);simp only [go_sem, lt0, hat, h0, pcells_bd, Bd.enc, hin, bd_len, List.length_map, List.length_append, hb2, rowB, cells_enc, Ty.tc];((with_reducible first|refine finA hC ?_|refine finD hC ?_);clear hC C))|(with_reducible first|refine qqA fun K hK=>?_|refine qqB fun K hK=>?_|refine qqC fun K hK=>?_|(refine qqD ?_;refine hK _ _ ?_;try clear hK K)|(refine qqE ?_;refine hK _ _ _ ?_ ?_;(focus kernel_rfl);try clear hK K)|(refine qqF ?_;refine hK _ _ ?_;try clear hK K)|refine qqG ?_|refine qqH ?_|refine qqI ?_|refine qqJ ?_|refine qqK ?_|(refine qqL ?_;try clear hK K)|(refine qqM ?_;try clear hK K)|refine qqN ?_|refine qqO ?_|(refine qqP ?_ ?_;focus decide))|((with_reducible first|apply qqQ|apply qqR|apply qqS);focus (simp only [go_sem, lt0, hat, h0, pcells_bd, Bd.enc, hin, bd_len, List.length_map, List.length_append, hb2, rowB, cells_enc, Ty.tc];exact rfl))|(with_reducible first|refine gk_tt ?_|refine gk_ff ?_|refine ck_t ?_|refine ck_f ?_)|((with_reducible first|refine gk_tf ?_|refine gk_ft ?_|refine gk_u ?_|refine gk_u' ?_);first|(intro _ e;(first|rw [qqY] at e|rw [qqZ] at e);subst e)|(intro _ _ e e';(first|rw [qqY] at e|rw [qqZ] at e);subst e;subst e'))))
      refine qqF ?_
      rw [hrow]
      refine hK1 _ _ _ _ _ (LeB [12] (by refine ⟨?_, ?_, ?_⟩ <;> simp only [leFr, leFb, leHp, V.ren, V.renL, V.bd, V.bdL, allL, lt, Go.Ab.get, hget, List.map_cons, List.map_nil, List.length_cons, List.length_nil, List.length_append, List.getElem?_cons_zero, List.getElem?_cons_succ, List.getElem?_nil, Option.join_some, Option.join_none, List.getD_cons_zero, List.getD_cons_succ, List.getD_nil, Nat.reduceAdd, Nat.reduceLT, Nat.reduceEqDiff, Nat.zero_add, reduceIte, if_true, if_false, and_true, true_and, renL_vcells, allL_vcells, renL_pv, leBlk_some, eq_self, true_or, or_true, reduceCtorEq, false_or, wrap01, renL_bd1, bdL_bd1, bb, ii])) (add_rows hs hR hN rest [b] [⟨v, t⟩, ⟨b.v, u⟩] true rfl he)
    | false =>
      have e1 : addL ⟨v, t⟩ (b :: rest) false = ⟨b.v, subT [⟨v, t⟩] b.t⟩ :: addL ⟨v, t⟩ rest false := by
        rw [addL]; exact if_neg (by simp only [Bool.not_false, if_true, hin]; decide)
      rw [e1] at he hlen
      generalize hu : subT [⟨v, t⟩] b.t = u at hc he hlen
      have hrow : [[V.pv (ii b.v), V.pv (ii u.kd), V.pv (ii u.id), V.pv (.list 3 (encL u.args))]] = ([(⟨b.v, u⟩ : Bd)]).map Bd.tc := by simp [Bd.tc]
      (repeat' (first|((first|(with_reducible refine qqV fun C hC=>?_)|(with_reducible refine qqW fun C hC=>?_)|((with_reducible intro C hC);(with_reducible refine qqX ?_)));(first|(simp only [go_sem, lt0, hat, h0, pcells_bd, Bd.enc, hin, bd_len, List.length_map, List.length_append, hb2, rowB, cells_enc, Ty.tc];(first|((with_reducible apply ACall.pure0 [] (hc));(focus (exact vwA))))));(simp only [go_sem, lt0, hat, h0, pcells_bd, Bd.enc, hin, bd_len, List.length_map, List.length_append, hb2, rowB, cells_enc, Ty.tc]);((with_reducible first|refine finA hC ?_|refine finD hC ?_);clear hC C))|((with_reducible first|refine qqT fun C hC=>?_|refine qqU fun C hC=>?_|intro C hC);simp only [go_sem, lt0, hat, h0, pcells_bd, Bd.enc, hin, bd_len, List.length_map, List.length_append, hb2, rowB, cells_enc, Ty.tc];((with_reducible first|refine finA hC ?_|refine finD hC ?_);clear hC C))|(with_reducible first|refine qqA fun K hK=>?_|refine qqB fun K hK=>?_|refine qqC fun K hK=>?_|(refine qqD ?_;refine hK _ _ ?_;try clear hK K)|(refine qqE ?_;refine hK _ _ _ ?_ ?_;(focus kernel_rfl);try clear hK K)|(refine qqF ?_;refine hK _ _ ?_;try clear hK K)|refine qqG ?_|refine qqH ?_|refine qqI ?_|refine qqJ ?_|refine qqK ?_|(refine qqL ?_;try clear hK K)|(refine qqM ?_;try clear hK K)|refine qqN ?_|refine qqO ?_|(refine qqP ?_ ?_;focus decide))|((with_reducible first|apply qqQ|apply qqR|apply qqS);focus (simp only [go_sem, lt0, hat, h0, pcells_bd, Bd.enc, hin, bd_len, List.length_map, List.length_append, hb2, rowB, cells_enc, Ty.tc];exact rfl))|(with_reducible first|refine gk_tt ?_|refine gk_ff ?_|refine ck_t ?_|refine ck_f ?_)|((with_reducible first|refine gk_tf ?_|refine gk_ft ?_|refine gk_u ?_|refine gk_u' ?_);first|(intro _ e;(first|rw [qqY] at e|rw [qqZ] at e);subst e)|(intro _ _ e e';(first|rw [qqY] at e|rw [qqZ] at e);subst e;subst e'))))
      refine qqF ?_
      rw [hrow]
      refine hK1 _ _ _ _ _ (LeB [10] (by refine ⟨?_, ?_, ?_⟩ <;> simp only [leFr, leFb, leHp, V.ren, V.renL, V.bd, V.bdL, allL, lt, Go.Ab.get, hget, List.map_cons, List.map_nil, List.length_cons, List.length_nil, List.length_append, List.getElem?_cons_zero, List.getElem?_cons_succ, List.getElem?_nil, Option.join_some, Option.join_none, List.getD_cons_zero, List.getD_cons_succ, List.getD_nil, Nat.reduceAdd, Nat.reduceLT, Nat.reduceEqDiff, Nat.zero_add, reduceIte, if_true, if_false, and_true, true_and, renL_vcells, allL_vcells, renL_pv, leBlk_some, eq_self, true_or, or_true, reduceCtorEq, false_or, wrap01, renL_bd1, bdL_bd1, bb, ii])) (add_rows hs hR hN rest [b] [⟨b.v, u⟩] false rfl he)
set_option maxHeartbeats 8000000 in
theorem add_ok (s : List Bd) (v : Int) (t : Ty) (hs : s.length ≤ 1000000) : PCall Try.prog 42 [.list 4 (encB s), ii v, t.enc] (.list 4 (encB (addB s v t))) := by
  have hR : (addB s v t).length ≤ 1000001 := by
    unfold addB
    rw [(addL_perm _ _).length_eq]
    simp only [List.length_cons, List.length_map]; omega
  refine PCall.intro (ps := [.list 4 (encB (addB s v t))]) fn42 (by simp) ?_
  unfold ac42
  simp only [argFr]
  (repeat' (first|((with_reducible refine aops_frzmov (d := 7) [1] (.list 4 (encB [⟨v, t⟩])) ?_ ?_);(focus (exact row_bd (xs := [⟨v, t⟩]) (by simp) rfl rfl));simp only [frz, go_sem, updL, setAt, List.filterMap_cons, List.filterMap_nil, Option.map_some])|((with_reducible first|refine qqT fun C hC=>?_|refine qqU fun C hC=>?_|intro C hC);simp only [go_sem, cells_enc, Ty.tc, encB_len];((with_reducible first|refine finA hC ?_|refine finD hC ?_);clear hC C))|(with_reducible first|refine qqA fun K hK=>?_|refine qqB fun K hK=>?_|refine qqC fun K hK=>?_|(refine qqD ?_;refine hK _ _ ?_;try clear hK K)|(refine qqE ?_;refine hK _ _ _ ?_ ?_;(focus kernel_rfl);try clear hK K)|(refine qqF ?_;refine hK _ _ ?_;try clear hK K)|refine qqG ?_|refine qqH ?_|refine qqI ?_|refine qqJ ?_|refine qqK ?_|(refine qqL ?_;try clear hK K)|(refine qqM ?_;try clear hK K)|refine qqN ?_|refine qqO ?_|(refine qqP ?_ ?_;focus decide))|((with_reducible first|apply qqQ|apply qqR|apply qqS);focus (simp only [go_sem, cells_enc, Ty.tc, encB_len];exact rfl))|(with_reducible first|refine gk_tt ?_|refine gk_ff ?_|refine ck_t ?_|refine ck_f ?_)|((with_reducible first|refine gk_tf ?_|refine gk_ft ?_|refine gk_u ?_|refine gk_u' ?_);first|(intro _ e;(first|rw [qqY] at e|rw [qqZ] at e);subst e)|(intro _ _ e e';(first|rw [qqY] at e|rw [qqZ] at e);subst e;subst e'))))
  have h0 : (encB [(⟨v, t⟩ : Bd)])[0]? = some (Bd.enc ⟨v, t⟩) := rfl
  refine awp_loop_k _ (LeB [] (by refine ⟨?_, ?_, ?_⟩ <;> simp only [leFr, leFb, leHp, V.ren, V.renL, V.bd, V.bdL, allL, lt, Go.Ab.get, hget, List.map_cons, List.map_nil, List.length_cons, List.length_nil, List.length_append, List.getElem?_cons_zero, List.getElem?_cons_succ, List.getElem?_nil, Option.join_some, Option.join_none, List.getD_cons_zero, List.getD_cons_succ, List.getD_nil, Nat.reduceAdd, Nat.reduceLT, Nat.reduceEqDiff, Nat.zero_add, reduceIte, if_true, if_false, and_true, true_and, renL_vcells, allL_vcells, renL_pv, leBlk_some, eq_self, true_or, or_true, reduceCtorEq, false_or, c0])) (add_first hs hR rfl (fun fr hn g9 g8 g7 => hK _ _ ?_) (fun fr acc ins he hal g9 g8 g7 => hK _ _ ?_))
  · subst hn
    have hadd : addB [] v t = [⟨v, t⟩] := rfl
    rw [hadd]
    (repeat' (first|((with_reducible first|refine qqT fun C hC=>?_|refine qqU fun C hC=>?_|intro C hC);simp only [go_sem, g9, g8, g7, h0, pcells_bd, Bd.enc, bd_len];((with_reducible first|refine finA hC ?_|refine finD hC ?_);clear hC C))|(with_reducible first|refine qqA fun K hK=>?_|refine qqB fun K hK=>?_|refine qqC fun K hK=>?_|(refine qqD ?_;refine hK _ _ ?_;try clear hK K)|(refine qqE ?_;refine hK _ _ _ ?_ ?_;(focus kernel_rfl);try clear hK K)|(refine qqF ?_;refine hK _ _ ?_;try clear hK K)|refine qqG ?_|refine qqH ?_|refine qqI ?_|refine qqJ ?_|refine qqK ?_|(refine qqL ?_;try clear hK K)|(refine qqM ?_;try clear hK K)|refine qqN ?_|refine qqO ?_|(refine qqP ?_ ?_;focus decide))|((with_reducible first|apply qqQ|apply qqR|apply qqS);focus (simp only [go_sem, g9, g8, g7, h0, pcells_bd, Bd.enc, bd_len];exact rfl))|(with_reducible first|refine gk_tt ?_|refine gk_ff ?_|refine ck_t ?_|refine ck_f ?_)|((with_reducible first|refine gk_tf ?_|refine gk_ft ?_|refine gk_u ?_|refine gk_u' ?_);first|(intro _ e;(first|rw [qqY] at e|rw [qqZ] at e);subst e)|(intro _ _ e e';(first|rw [qqY] at e|rw [qqZ] at e);subst e;subst e'))))
    refine retP_ret [1] rfl (.cons _ _ _ _ ?_ .nil)
    exact row_bd (xs := [⟨v, t⟩]) (by simp) rfl rfl
  · unfold addB
    cases ins with
    | true =>
      have he2 : addL ⟨v, t⟩ s false = acc := by rw [← List.append_nil acc]; exact he
      rw [he2]
      (repeat' (first|((with_reducible first|refine qqT fun C hC=>?_|refine qqU fun C hC=>?_|intro C hC);simp only [go_sem, g9, g8, g7];((with_reducible first|refine finA hC ?_|refine finD hC ?_);clear hC C))|(with_reducible first|refine qqA fun K hK=>?_|refine qqB fun K hK=>?_|refine qqC fun K hK=>?_|(refine qqD ?_;refine hK _ _ ?_;try clear hK K)|(refine qqE ?_;refine hK _ _ _ ?_ ?_;(focus kernel_rfl);try clear hK K)|(refine qqF ?_;refine hK _ _ ?_;try clear hK K)|refine qqG ?_|refine qqH ?_|refine qqI ?_|refine qqJ ?_|refine qqK ?_|(refine qqL ?_;try clear hK K)|(refine qqM ?_;try clear hK K)|refine qqN ?_|refine qqO ?_|(refine qqP ?_ ?_;focus decide))|((with_reducible first|apply qqQ|apply qqR|apply qqS);focus (simp only [go_sem, g9, g8, g7];exact rfl))|(with_reducible first|refine gk_tt ?_|refine gk_ff ?_|refine ck_t ?_|refine ck_f ?_)|((with_reducible first|refine gk_tf ?_|refine gk_ft ?_|refine gk_u ?_|refine gk_u' ?_);first|(intro _ e;(first|rw [qqY] at e|rw [qqZ] at e);subst e)|(intro _ _ e e';(first|rw [qqY] at e|rw [qqZ] at e);subst e;subst e'))))
      refine retP_ret [0] rfl (.cons _ _ _ _ ?_ .nil)
      exact row_bd (xs := acc) (by simp) rfl rfl
    | false =>
      have he2 : addL ⟨v, t⟩ s false = acc ++ [⟨v, t⟩] := he
      rw [he2]
      have hb1 : acc.length + 1 ≤ big := by unfold big; omega
      (repeat' (first|((with_reducible first|refine qqT fun C hC=>?_|refine qqU fun C hC=>?_|intro C hC);simp only [go_sem, g9, g8, g7, h0, pcells_bd, Bd.enc, bd_len, List.length_map, hb1, rowB];((with_reducible first|refine finA hC ?_|refine finD hC ?_);clear hC C))|(with_reducible first|refine qqA fun K hK=>?_|refine qqB fun K hK=>?_|refine qqC fun K hK=>?_|(refine qqD ?_;refine hK _ _ ?_;try clear hK K)|(refine qqE ?_;refine hK _ _ _ ?_ ?_;(focus kernel_rfl);try clear hK K)|(refine qqF ?_;refine hK _ _ ?_;try clear hK K)|refine qqG ?_|refine qqH ?_|refine qqI ?_|refine qqJ ?_|refine qqK ?_|(refine qqL ?_;try clear hK K)|(refine qqM ?_;try clear hK K)|refine qqN ?_|refine qqO ?_|(refine qqP ?_ ?_;focus decide))|((with_reducible first|apply qqQ|apply qqR|apply qqS);focus (simp only [go_sem, g9, g8, g7, h0, pcells_bd, Bd.enc, bd_len, List.length_map, hb1, rowB];exact rfl))|(with_reducible first|refine gk_tt ?_|refine gk_ff ?_|refine ck_t ?_|refine ck_f ?_)|((with_reducible first|refine gk_tf ?_|refine gk_ft ?_|refine gk_u ?_|refine gk_u' ?_);first|(intro _ e;(first|rw [qqY] at e|rw [qqZ] at e);subst e)|(intro _ _ e e';(first|rw [qqY] at e|rw [qqZ] at e);subst e;subst e'))))
      have hrow : List.map Bd.tc acc ++ [[V.pv (ii v), V.pv (ii t.kd), V.pv (ii t.id), V.pv (.list 3 (encL t.args))]] = (acc ++ [(⟨v, t⟩ : Bd)]).map Bd.tc := by simp [Bd.tc]
      rw [hrow]
      refine retP_ret (vs := [.row 2 (acc.length + 1) false]) [2] rfl (.cons _ _ _ _ ?_ .nil)
      exact row_bd (b := 2) (xs := acc ++ [(⟨v, t⟩ : Bd)]) (List.mem_singleton.2 rfl) rfl (by rw [List.length_append]; rfl)
end Go.Proofs.Ytiediojibljpiaa
