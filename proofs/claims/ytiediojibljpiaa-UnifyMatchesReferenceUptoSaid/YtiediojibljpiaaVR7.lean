/- R7: joined from ZR7. -/
import Derived.Test.YtiediojibljpiaaVFnU
import Derived.Test.YtiediojibljpiaaVR6
/- The reference: the pairs of arguments. -/
set_option maxRecDepth 10000
set_option linter.unusedSimpArgs false
set_option linter.unusedVariables false
namespace Go.Proofs.Ytiediojibljpiaa
open Go Go.Ab
def Eqn.tq (e : Eqn) : List V := [.pv (ii e.l.kd), .pv (ii e.l.id), .pv (.list 3 (encL e.l.args)), .pv (ii e.r.kd), .pv (ii e.r.id), .pv (.list 3 (encL e.r.args))]
abbrev rowE (rs : List Eqn) : Blk := ⟨false, 31, 6, rs.map Eqn.tq, none⟩
theorem vcellsE (xs : List Eqn) : (encQ xs).map PV.vcells = xs.map Eqn.tq := by
  unfold encQ; rw [List.map_map]
  exact List.map_congr_left fun t _ => rfl
theorem cellsE (xs : List Eqn) : (∀ x ∈ encQ xs, x.cells.length = 6) = True := by
  refine eq_true fun x hx => ?_
  unfold encQ at hx
  obtain ⟨t, _, rfl⟩ := List.mem_map.1 hx
  rfl
theorem renL_E {ρ : Nat → Nat} (xs : List Eqn) : (xs.map Eqn.tq).map (V.renL ρ) = xs.map Eqn.tq := by
  rw [List.map_map]; exact List.map_congr_left fun p _ => rfl
theorem renL_E1 {ρ : Nat → Nat} (x : Eqn) : V.renL ρ x.tq = x.tq := rfl
theorem bdL_E1 {S : Nat → Prop} (x : Eqn) : V.bdL S x.tq = True := by simp [Eqn.tq, V.bdL, V.bd]
theorem allL_E {S : Nat → Prop} (xs : List Eqn) : allL S (xs.map Eqn.tq) = True := by
  simp only [allL_iff, eq_iff_iff, iff_true]
  intro cs hcs
  obtain ⟨p, _, rfl⟩ := List.mem_map.1 hcs
  simp [Eqn.tq, V.bdL, V.bd]
theorem VwE_E {h : HF} {B : List Nat} : ∀ (xs : List Eqn), VwE h B 6 (xs.map Eqn.tq) (encQ xs)
  | [] => .nil 6
  | x :: xs => .cons 6 _ _ _ _ rfl (.cons _ _ _ _ (.pv _) (.cons _ _ _ _ (.pv _) (.cons _ _ _ _ (.pv _) (.cons _ _ _ _ (.pv _) (.cons _ _ _ _ (.pv _) (.cons _ _ _ _ (.pv _) .nil)))))) (VwE_E xs)
theorem row_E {h : HF} {B : List Nat} {b n : Nat} {fl ro : Bool} {ty : Nat} {xs : List Eqn} {tg : Option (Nat × Nat × Nat)} (hb : b ∈ B) (hk : h b = some ⟨ro, ty, 6, xs.map Eqn.tq, tg⟩) (hn : n = xs.length) : Vw h B (.row b n fl) (.list 6 (encQ xs)) :=
  row_view hb hk (by simp [hn]) (VwE_E xs)
theorem tq_len (e : Eqn) : e.tq.length = 6 := rfl
theorem zipE_len : ∀ ta tb : List Ty, (zipE ta tb).length ≤ ta.length
  | [], tb => by simp [zipE]
  | a :: ta, [] => by simp [zipE]
  | a :: ta, b :: tb => by have := zipE_len ta tb; simp only [zipE, List.length_cons]; omega
set_option maxHeartbeats 8000000 in
theorem r_args {a b : Ty} {w s : PV} (hlen : a.args.length ≤ 1000000000) {Q : Post} (hN : ∀ fr, Ab.get fr 13 = .row 2 (zipE a.args b.args).length false → Ab.get fr 5 = .pv w → Ab.get fr 4 = .pv s → Q .normal fr [some ⟨false, 29, 3, [a.tc], none⟩, some ⟨false, 29, 3, [b.tc], none⟩, some (rowE (zipE a.args b.args))]) :
    ∀ (ra rb pa pb : List Ty) (acc : List Eqn), pa ++ ra = a.args → pb ++ rb = b.args → pa.length = pb.length → ra.length = rb.length → zipE a.args b.args = acc ++ zipE ra rb →
    loopN (awp Try.prog ac11_l1) (catch_ 3 Q) (ra.length + 1)
      [(41, .pv (ii pa.length)), (40, .pv (ii a.args.length)), (13, .row 2 acc.length false), (7, .ptr 0 0 0), (8, .ptr 1 0 0), (5, .pv w), (4, .pv s)]
      [some ⟨false, 29, 3, [a.tc], none⟩, some ⟨false, 29, 3, [b.tc], none⟩, some (rowE acc)] := by
  intro ra
  induction ra with
  | nil =>
    intro rb pa pb acc ha hb2 hl hr he
    have ha : pa = a.args := by simpa using ha
    have hrb : rb = [] := by simpa using hr.symm
    subst hrb
    have he : zipE a.args b.args = acc := by rw [he]; simp [zipE]
    rw [ha, ← he]
    refine loopN_k fun K1 hK1 => ?_
    unfold ac11_l1
    (repeat' (first|((with_reducible first|refine qqT fun C hC=>?_|refine qqU fun C hC=>?_|intro C hC);simp only [go_sem, lt_end];((with_reducible first|refine finA hC ?_|refine finD hC ?_);clear hC C))|(with_reducible first|refine qqA fun K hK=>?_|refine qqB fun K hK=>?_|refine qqC fun K hK=>?_|(refine qqD ?_;refine hK _ _ ?_;try clear hK K)|(refine qqE ?_;refine hK _ _ _ ?_ ?_;(focus kernel_rfl);try clear hK K)|(refine qqF ?_;refine hK _ _ ?_;try clear hK K)|refine qqG ?_|refine qqH ?_|refine qqI ?_|refine qqJ ?_|refine qqK ?_|(refine qqL ?_;try clear hK K)|(refine qqM ?_;try clear hK K)|refine qqN ?_|refine qqO ?_|(refine qqP ?_ ?_;focus decide))|((with_reducible first|apply qqQ|apply qqR|apply qqS);focus (simp only [go_sem, lt_end];exact rfl))|(with_reducible first|refine gk_tt ?_|refine gk_ff ?_|refine ck_t ?_|refine ck_f ?_)|((with_reducible first|refine gk_tf ?_|refine gk_ft ?_|refine gk_u ?_|refine gk_u' ?_);first|(intro _ e;(first|rw [qqY] at e|rw [qqZ] at e);subst e)|(intro _ _ e e';(first|rw [qqY] at e|rw [qqZ] at e);subst e;subst e'))))
    exact hN _ rfl rfl rfl
  | cons x ra ih =>
    intro rb pa pb acc ha hb2 hl hr he
    cases rb with
    | nil => simp at hr
    | cons y rb =>
    have hlt : decide ((pa.length : Int) < (a.args.length : Int)) = true := by rw [← ha]; exact lt_app _ _ _
    have hata : (encL a.args)[pa.length]? = some x.enc := by rw [← ha]; exact encL_at _ _ _
    have hatb : (encL b.args)[pa.length]? = some y.enc := by rw [← hb2, hl]; exact encL_at _ _ _
    have hbb : pa.length + 1 ≤ big := by have := congrArg List.length ha; simp at this; unfold big; omega
    simp only [zipE] at he
    have hal : acc.length + 1 ≤ big := by
      have h1 := congrArg List.length he
      have h2 := zipE_len a.args b.args
      simp only [List.length_append, List.length_cons] at h1
      unfold big; omega
    have hw := wrapS (n := pa.length) (by unfold big at hbb; omega)
    have hrow : List.map Eqn.tq acc ++ [[V.pv (ii x.kd), V.pv (ii x.id), V.pv (.list 3 (encL x.args)), V.pv (ii y.kd), V.pv (ii y.id), V.pv (.list 3 (encL y.args))]] = (acc ++ [(⟨x, y⟩ : Eqn)]).map Eqn.tq := by simp [Eqn.tq]
    have hacl : acc.length + 1 = (acc ++ [(⟨x, y⟩ : Eqn)]).length := by simp
    refine loopN_k fun K1 hK1 => ?_
    unfold ac11_l1
    (repeat' (first|((with_reducible first|refine qqT fun C hC=>?_|refine qqU fun C hC=>?_|intro C hC);simp only [go_sem, hlt, hata, hatb, cells_enc, pcells_enc, enc_eq, Ty.tc, tq_len, List.length_map, hal, rowE];((with_reducible first|refine finA hC ?_|refine finD hC ?_);clear hC C))|(with_reducible first|refine qqA fun K hK=>?_|refine qqB fun K hK=>?_|refine qqC fun K hK=>?_|(refine qqD ?_;refine hK _ _ ?_;try clear hK K)|(refine qqE ?_;refine hK _ _ _ ?_ ?_;(focus kernel_rfl);try clear hK K)|(refine qqF ?_;refine hK _ _ ?_;try clear hK K)|refine qqG ?_|refine qqH ?_|refine qqI ?_|refine qqJ ?_|refine qqK ?_|(refine qqL ?_;try clear hK K)|(refine qqM ?_;try clear hK K)|refine qqN ?_|refine qqO ?_|(refine qqP ?_ ?_;focus decide))|((with_reducible first|apply qqQ|apply qqR|apply qqS);focus (simp only [go_sem, hlt, hata, hatb, cells_enc, pcells_enc, enc_eq, Ty.tc, tq_len, List.length_map, hal, rowE];exact rfl))|(with_reducible first|refine gk_tt ?_|refine gk_ff ?_|refine ck_t ?_|refine ck_f ?_)|((with_reducible first|refine gk_tf ?_|refine gk_ft ?_|refine gk_u ?_|refine gk_u' ?_);first|(intro _ e;(first|rw [qqY] at e|rw [qqZ] at e);subst e)|(intro _ _ e e';(first|rw [qqY] at e|rw [qqZ] at e);subst e;subst e'))))
    refine qqF ?_
    rw [hrow, hacl]
    refine hK1 _ _ _ _ _ (LeB [0, 1, 16] (by refine ⟨?_, ?_, ?_⟩ <;> simp only [leFr, leFb, leHp, V.ren, V.renL, V.bd, V.bdL, allL, lt, Go.Ab.get, hget, List.map_cons, List.map_nil, List.length_cons, List.length_nil, List.length_append, List.getElem?_cons_zero, List.getElem?_cons_succ, List.getElem?_nil, Option.join_some, Option.join_none, List.getD_cons_zero, List.getD_cons_succ, List.getD_nil, Nat.reduceAdd, Nat.reduceLT, Nat.reduceEqDiff, Nat.zero_add, reduceIte, if_true, if_false, and_true, true_and, renL_vcells, allL_vcells, renL_pv, leBlk_some, eq_self, true_or, or_true, reduceCtorEq, false_or, hw, List.length_append, renL_E, allL_E, Ty.tc, rowE, ii])) (ih rb (pa ++ [x]) (pb ++ [y]) (acc ++ [⟨x, y⟩]) (by simp [ha]) (by simp [hb2]) (by simp [hl]) (by simpa using hr) (by rw [he]; simp))
set_option maxHeartbeats 8000000 in
theorem r_args0 {a b : Ty} {w s : PV} (hlen : a.args.length ≤ 1000000000) (hab : a.args.length = b.args.length) {Q : Post}
    (hN0 : ∀ fr, a.args = [] → Ab.get fr 13 = .pv (.lit (.slice none 0 0)) → Ab.get fr 5 = .pv w → Ab.get fr 4 = .pv s → Q .normal fr [some ⟨false, 29, 3, [a.tc], none⟩, some ⟨false, 29, 3, [b.tc], none⟩])
    (hN : ∀ fr, a.args ≠ [] → Ab.get fr 13 = .row 2 (zipE a.args b.args).length false → Ab.get fr 5 = .pv w → Ab.get fr 4 = .pv s → Q .normal fr [some ⟨false, 29, 3, [a.tc], none⟩, some ⟨false, 29, 3, [b.tc], none⟩, some (rowE (zipE a.args b.args))]) :
    ∃ n, loopN (awp Try.prog ac11_l1) (catch_ 3 Q) n
      [(41, .pv (ii 0)), (40, .pv (ii a.args.length)), (13, .pv (.lit (.slice none 0 0))), (7, .ptr 0 0 0), (8, .ptr 1 0 0), (5, .pv w), (4, .pv s)]
      [some ⟨false, 29, 3, [a.tc], none⟩, some ⟨false, 29, 3, [b.tc], none⟩] := by
  refine ⟨a.args.length + 1, ?_⟩
  refine loopN_k fun K1 hK1 => ?_
  unfold ac11_l1
  cases hra : a.args with
  | nil =>
    (repeat' (first|((with_reducible first|refine qqT fun C hC=>?_|refine qqU fun C hC=>?_|intro C hC);simp only [go_sem, lt_zero];((with_reducible first|refine finA hC ?_|refine finD hC ?_);clear hC C))|(with_reducible first|refine qqA fun K hK=>?_|refine qqB fun K hK=>?_|refine qqC fun K hK=>?_|(refine qqD ?_;refine hK _ _ ?_;try clear hK K)|(refine qqE ?_;refine hK _ _ _ ?_ ?_;(focus kernel_rfl);try clear hK K)|(refine qqF ?_;refine hK _ _ ?_;try clear hK K)|refine qqG ?_|refine qqH ?_|refine qqI ?_|refine qqJ ?_|refine qqK ?_|(refine qqL ?_;try clear hK K)|(refine qqM ?_;try clear hK K)|refine qqN ?_|refine qqO ?_|(refine qqP ?_ ?_;focus decide))|((with_reducible first|apply qqQ|apply qqR|apply qqS);focus (simp only [go_sem, lt_zero];exact rfl))|(with_reducible first|refine gk_tt ?_|refine gk_ff ?_|refine ck_t ?_|refine ck_f ?_)|((with_reducible first|refine gk_tf ?_|refine gk_ft ?_|refine gk_u ?_|refine gk_u' ?_);first|(intro _ e;(first|rw [qqY] at e|rw [qqZ] at e);subst e)|(intro _ _ e e';(first|rw [qqY] at e|rw [qqZ] at e);subst e;subst e'))))
    exact hN0 _ hra rfl rfl rfl
  | cons x ra =>
    cases hrb : b.args with
    | nil => rw [hra, hrb] at hab; simp at hab
    | cons y rb =>
      have lt0 : decide ((0 : Int) < ((x :: ra).length : Int)) = true := by simp
      have hata : (encL (x :: ra))[0]? = some x.enc := rfl
      have hatb : (encL (y :: rb))[0]? = some y.enc := rfl
      (repeat' (first|((with_reducible first|refine qqT fun C hC=>?_|refine qqU fun C hC=>?_|intro C hC);simp only [go_sem, lt0, hata, hatb, hra, hrb, cells_enc, pcells_enc, enc_eq, Ty.tc, tq_len, rowE];((with_reducible first|refine finA hC ?_|refine finD hC ?_);clear hC C))|(with_reducible first|refine qqA fun K hK=>?_|refine qqB fun K hK=>?_|refine qqC fun K hK=>?_|(refine qqD ?_;refine hK _ _ ?_;try clear hK K)|(refine qqE ?_;refine hK _ _ _ ?_ ?_;(focus kernel_rfl);try clear hK K)|(refine qqF ?_;refine hK _ _ ?_;try clear hK K)|refine qqG ?_|refine qqH ?_|refine qqI ?_|refine qqJ ?_|refine qqK ?_|(refine qqL ?_;try clear hK K)|(refine qqM ?_;try clear hK K)|refine qqN ?_|refine qqO ?_|(refine qqP ?_ ?_;focus decide))|((with_reducible first|apply qqQ|apply qqR|apply qqS);focus (simp only [go_sem, lt0, hata, hatb, hra, hrb, cells_enc, pcells_enc, enc_eq, Ty.tc, tq_len, rowE];exact rfl))|(with_reducible first|refine gk_tt ?_|refine gk_ff ?_|refine ck_t ?_|refine ck_f ?_)|((with_reducible first|refine gk_tf ?_|refine gk_ft ?_|refine gk_u ?_|refine gk_u' ?_);first|(intro _ e;(first|rw [qqY] at e|rw [qqZ] at e);subst e)|(intro _ _ e e';(first|rw [qqY] at e|rw [qqZ] at e);subst e;subst e'))))
      refine qqF ?_
      have hrow : [[V.pv (ii x.kd), V.pv (ii x.id), V.pv (.list 3 (encL x.args)), V.pv (ii y.kd), V.pv (ii y.id), V.pv (.list 3 (encL y.args))]] = ([(⟨x, y⟩ : Eqn)]).map Eqn.tq := by simp [Eqn.tq]
      rw [hrow]
      have hne : a.args ≠ [] := by rw [hra]; simp
      have hr := r_args hlen (fun fr => hN fr hne) ra rb [x] [y] [⟨x, y⟩] (by rw [hra]; rfl) (by rw [hrb]; rfl) rfl (by rw [hra, hrb] at hab; simpa using hab) (by rw [hra, hrb]; rfl)
      rw [hra] at hr
      have hcnt : a.args.length = ra.length + 1 := by rw [hra]; rfl
      rw [hcnt] at hK1
      refine hK1 _ _ _ _ _ (LeB [0, 1, 15] (by refine ⟨?_, ?_, ?_⟩ <;> simp only [leFr, leFb, leHp, V.ren, V.renL, V.bd, V.bdL, allL, lt, Go.Ab.get, hget, List.map_cons, List.map_nil, List.length_cons, List.length_nil, List.length_append, List.getElem?_cons_zero, List.getElem?_cons_succ, List.getElem?_nil, Option.join_some, Option.join_none, List.getD_cons_zero, List.getD_cons_succ, List.getD_nil, Nat.reduceAdd, Nat.reduceLT, Nat.reduceEqDiff, Nat.zero_add, reduceIte, if_true, if_false, and_true, true_and, renL_vcells, allL_vcells, renL_pv, leBlk_some, eq_self, true_or, or_true, reduceCtorEq, false_or, wrap01, renL_E1, bdL_E1, allL, Ty.tc, rowE, ii])) hr
end Go.Proofs.Ytiediojibljpiaa
