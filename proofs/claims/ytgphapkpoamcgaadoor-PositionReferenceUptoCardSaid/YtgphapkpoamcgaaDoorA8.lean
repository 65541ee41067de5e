/- A8: joined from O6. -/
import Derived.Test.YtgphapkpoamcgaaDoorFnP
import Derived.Test.YtgphapkpoamcgaaDoorA7
/- The reference's PositionOf and OffsetOf. -/
set_option maxRecDepth 10000
set_option linter.unusedSimpArgs false
set_option linter.unusedVariables false
namespace Go.Proofs.YtgphapkpoamcgaaDoor
open Go Go.Ab
theorem rns_bd : ∀ (n p : Nat) (x : List UInt8), ∀ r ∈ rns n p x, r.1 + r.2.1 ≤ p + x.length ∧ r.2.2 ≤ 2
  | 0, _, _, r, h => by cases h
  | n + 1, p, x, r, h => by
    have hd := dec_le x
    simp only [rns] at h
    split at h
    · cases h
    · rcases List.mem_cons.1 h with rfl | h
      · refine ⟨?_, ?_⟩
        · show p + (dec x).2 ≤ _; omega
        · show un _ ≤ 2; unfold un; split <;> omega
      · have := rns_bd n _ _ r h
        rw [List.length_drop] at this; omega
theorem lnRunes_bd (l : List UInt8) (st : Nat) (h : st ≤ l.length) : (∀ r ∈ lnRunes l st, r.1 + r.2.1 ≤ l.length ∧ r.2.2 ≤ 2) ∧ (lnRunes l st).length ≤ l.length := by
  have hle := runL_le lnC (l.drop st)
  have hE := ln_len (l.drop st)
  rw [List.length_drop] at hle
  refine ⟨fun r hr => ?_, ?_⟩
  · have := rns_bd _ _ _ r hr
    omega
  · have := rns_len (ln (l.drop st)).length st (ln (l.drop st))
    unfold lnRunes; omega
def BZ : Option Blk := some ⟨false, 23, 2, [[.pv (ii 0), .pv (ii 0)]], none⟩
set_option maxHeartbeats 4000000 in
theorem po_down {K : Fr → Hp → Prop} {Q : Post} (u : Bool) (l : List UInt8) (S : List Nat) (o J : Nat) (hS : S.length ≤ 2097152) (h0 : S[0]? = some 0)
    (hN : ∀ fr, Ab.get fr 9 = .pv (ii J) → Ab.get fr 8 = .pv (.list 1 (encN S)) → Ab.get fr 6 = .ptr 0 0 0 → Ab.get fr 2 = .pv (bb u) → Ab.get fr 1 = .pv (ii o) → Ab.get fr 0 = .pv (sb l) → K fr [some ⟨false, 23, 2, [[.pv (ii 0), .pv (ii 0)]], none⟩]) :
    ∀ (n : Nat), n < S.length → downL S o n = J →
    loopN (awp Tryd.prog ac10_l0) (catch_ 0 (thn K Q)) (n + 1) [(9, .pv (ii n)), (8, .pv (.list 1 (encN S))), (6, .ptr 0 0 0), (2, .pv (bb u)), (1, .pv (ii o)), (0, .pv (sb l))] [some ⟨false, 23, 2, [[.pv (ii 0), .pv (ii 0)]], none⟩] := by
  intro n
  induction n with
  | zero =>
    intro hn he
    rw [downL] at he; subst he
    have hat := encN_get h0
    have e1 : decide (((0 : Nat) : Int) > (o : Int)) = false := decide_eq_false (by omega)
    refine loopN_k fun K1 hK1 => ?_
    unfold ac10_l0
    (repeat' (first | ((with_reducible first | refine aops_cons' fun C hC => ?_ | refine aopsD_cons' fun C hC => ?_ | intro C hC); simp only [go_sem, hat, pc_lit, e1]; ((with_reducible first | refine finA hC ?_ | refine finD hC ?_); clear hC C)) | (with_reducible first | refine awp_seq_k fun K hK => ?_ | refine awp_reg_k fun K hK => ?_ | refine awp_dreg_k fun K hK => ?_ | (refine aops_nil ?_; refine hK _ _ ?_; try clear hK K) | (refine aopsD_nil ?_; refine hK _ _ _ ?_ ?_; (focus kernel_rfl); try clear hK K) | (refine thn_normal ?_; refine hK _ _ ?_; try clear hK K) | refine catch_normal ?_ | refine awp_skip_k ?_ | refine awp_ret_k ?_ | refine awp_exit_k ?_ | refine awp_block_k ?_ | (refine thn_exit ?_; try clear hK K) | (refine thn_ret ?_; try clear hK K) | refine catch_ret ?_ | refine catch_exit ?_ | (refine catch_other ?_ ?_; focus decide)) | ((with_reducible first | apply aops_guard' | apply aopsD_guard' | apply awp_cond_g); focus (simp only [go_sem, hat, pc_lit, e1]; exact rfl)) | (with_reducible first | refine gk_tt ?_ | refine gk_ff ?_ | refine ck_t ?_ | refine ck_f ?_) | ((with_reducible first | refine gk_tf ?_ | refine gk_ft ?_ | refine gk_u ?_ | refine gk_u' ?_); first | (intro _ e; (first | rw [put_some] at e | rw [put_none] at e); subst e) | (intro _ _ e e'; (first | rw [put_some] at e | rw [put_none] at e); subst e; subst e'))))
    exact hN _ rfl rfl rfl rfl rfl rfl
  | succ n ih =>
    intro hn he
    obtain ⟨x, hx⟩ : ∃ x, S[n + 1]? = some x := ⟨_, List.getElem?_eq_getElem hn⟩
    have hat := encN_get hx
    have hw : IntKind.i64.wrap (((n + 1 : Nat) : Int) - 1) = (n : Int) := wrapP (by omega)
    simp only [downL] at he
    rw [List.getD_eq_getElem?_getD, hx, Option.getD_some] at he
    refine loopN_k fun K1 hK1 => ?_
    unfold ac10_l0
    cases e1 : decide ((x : Int) > (o : Int)) with
    | true =>
      have := of_decide_eq_true e1
      rw [if_pos (by omega)] at he
      (repeat' (first | ((with_reducible first | refine aops_cons' fun C hC => ?_ | refine aopsD_cons' fun C hC => ?_ | intro C hC); simp only [go_sem, hat, pc_lit, e1, hw]; ((with_reducible first | refine finA hC ?_ | refine finD hC ?_); clear hC C)) | (with_reducible first | refine awp_seq_k fun K hK => ?_ | refine awp_reg_k fun K hK => ?_ | refine awp_dreg_k fun K hK => ?_ | (refine aops_nil ?_; refine hK _ _ ?_; try clear hK K) | (refine aopsD_nil ?_; refine hK _ _ _ ?_ ?_; (focus kernel_rfl); try clear hK K) | (refine thn_normal ?_; refine hK _ _ ?_; try clear hK K) | refine catch_normal ?_ | refine awp_skip_k ?_ | refine awp_ret_k ?_ | refine awp_exit_k ?_ | refine awp_block_k ?_ | (refine thn_exit ?_; try clear hK K) | (refine thn_ret ?_; try clear hK K) | refine catch_ret ?_ | refine catch_exit ?_ | (refine catch_other ?_ ?_; focus decide)) | ((with_reducible first | apply aops_guard' | apply aopsD_guard' | apply awp_cond_g); focus (simp only [go_sem, hat, pc_lit, e1, hw]; exact rfl)) | (with_reducible first | refine gk_tt ?_ | refine gk_ff ?_ | refine ck_t ?_ | refine ck_f ?_) | ((with_reducible first | refine gk_tf ?_ | refine gk_ft ?_ | refine gk_u ?_ | refine gk_u' ?_); first | (intro _ e; (first | rw [put_some] at e | rw [put_none] at e); subst e) | (intro _ _ e e'; (first | rw [put_some] at e | rw [put_none] at e); subst e; subst e'))))
      refine hK1 _ _ _ _ _ (LeB [0] (by refine ⟨?_, ?_, ?_⟩ <;> simp only [leFr, leFb, leHp, V.ren, V.renL, V.bd, V.bdL, allL, lt, Go.Ab.get, hget, List.map_cons, List.map_nil, List.length_cons, List.length_nil, List.length_append, List.getElem?_cons_zero, List.getElem?_cons_succ, List.getElem?_nil, Option.join_some, Option.join_none, List.getD_cons_zero, List.getD_cons_succ, List.getD_nil, Nat.reduceAdd, Nat.reduceLT, Nat.reduceEqDiff, Nat.zero_add, reduceIte, if_true, if_false, and_true, true_and, renL_vcells, allL_vcells, renL_pv, leBlk_some, eq_self, true_or, or_true, reduceCtorEq, false_or, allL])) (ih (by omega) he)
    | false =>
      have := of_decide_eq_false e1
      rw [if_neg (by omega)] at he
      subst he
      (repeat' (first | ((with_reducible first | refine aops_cons' fun C hC => ?_ | refine aopsD_cons' fun C hC => ?_ | intro C hC); simp only [go_sem, hat, pc_lit, e1]; ((with_reducible first | refine finA hC ?_ | refine finD hC ?_); clear hC C)) | (with_reducible first | refine awp_seq_k fun K hK => ?_ | refine awp_reg_k fun K hK => ?_ | refine awp_dreg_k fun K hK => ?_ | (refine aops_nil ?_; refine hK _ _ ?_; try clear hK K) | (refine aopsD_nil ?_; refine hK _ _ _ ?_ ?_; (focus kernel_rfl); try clear hK K) | (refine thn_normal ?_; refine hK _ _ ?_; try clear hK K) | refine catch_normal ?_ | refine awp_skip_k ?_ | refine awp_ret_k ?_ | refine awp_exit_k ?_ | refine awp_block_k ?_ | (refine thn_exit ?_; try clear hK K) | (refine thn_ret ?_; try clear hK K) | refine catch_ret ?_ | refine catch_exit ?_ | (refine catch_other ?_ ?_; focus decide)) | ((with_reducible first | apply aops_guard' | apply aopsD_guard' | apply awp_cond_g); focus (simp only [go_sem, hat, pc_lit, e1]; exact rfl)) | (with_reducible first | refine gk_tt ?_ | refine gk_ff ?_ | refine ck_t ?_ | refine ck_f ?_) | ((with_reducible first | refine gk_tf ?_ | refine gk_ft ?_ | refine gk_u ?_ | refine gk_u' ?_); first | (intro _ e; (first | rw [put_some] at e | rw [put_none] at e); subst e) | (intro _ _ e e'; (first | rw [put_some] at e | rw [put_none] at e); subst e; subst e'))))
      exact hN _ rfl rfl rfl rfl rfl rfl
set_option maxHeartbeats 4000000 in
theorem po_rows {K : Fr → Hp → Prop} (u : Bool) (o J : Nat) (rs : List R3) (ps : List PV) (C : Option Nat) (hl : rs.length ≤ 1048576) (hb : ∀ r ∈ rs, r.1 + r.2.1 ≤ 1048576 ∧ r.2.2 ≤ 2)
    (hn : C = none → ps = [p2 0 0, ii 3])
    (hN0 : ∀ c, C = some c → ∀ fr, Ab.get fr 10 = .pv (ii (c : Nat)) → Ab.get fr 9 = .pv (ii J) → Ab.get fr 6 = .ptr 0 0 0 → K fr [some ⟨false, 23, 2, [[.pv (ii 0), .pv (ii 0)]], none⟩])
    (hN1 : ∀ c, C = some c → ∀ fr b, Ab.get fr 10 = .pv (ii (c : Nat)) → Ab.get fr 9 = .pv (ii J) → Ab.get fr 6 = .ptr 0 0 0 → K fr [some ⟨false, 23, 2, [[.pv (ii 0), .pv (ii 0)]], none⟩, some b]) :
    ∀ (rest pre : List R3) (c : Nat), pre ++ rest = rs → c ≤ 2 * pre.length → colL u o rest c = C →
    loopN (awp Tryd.prog ac10_l1) (catch_ 2 (thn K (retP [RV.cell 6 2 true, RV.tmp 7] ps))) (rest.length + 1) [(42, .pv (ii pre.length)), (41, .pv (ii rs.length)), (40, .pv (.list 3 (encR rs))), (10, .pv (ii c)), (9, .pv (ii J)), (6, .ptr 0 0 0), (2, .pv (bb u)), (1, .pv (ii o))] [some ⟨false, 23, 2, [[.pv (ii 0), .pv (ii 0)]], none⟩] := by
  intro rest
  induction rest with
  | nil =>
    intro pre c hpre hc he
    have hpre : pre = rs := by simpa using hpre
    rw [colL] at he
    have hN := hN0 c he.symm
    have hlt : decide ((pre.length : Int) < (rs.length : Int)) = false := by rw [hpre]; exact lt_end _
    clear hN0 hN1
    refine loopN_k fun K1 hK1 => ?_
    unfold ac10_l1
    (repeat' (first | ((with_reducible first | refine aops_cons' fun C hC => ?_ | refine aopsD_cons' fun C hC => ?_ | intro C hC); simp only [go_sem, hlt]; ((with_reducible first | refine finA hC ?_ | refine finD hC ?_); clear hC C)) | (with_reducible first | refine awp_seq_k fun K hK => ?_ | refine awp_reg_k fun K hK => ?_ | refine awp_dreg_k fun K hK => ?_ | (refine aops_nil ?_; refine hK _ _ ?_; try clear hK K) | (refine aopsD_nil ?_; refine hK _ _ _ ?_ ?_; (focus kernel_rfl); try clear hK K) | (refine thn_normal ?_; refine hK _ _ ?_; try clear hK K) | refine catch_normal ?_ | refine awp_skip_k ?_ | refine awp_ret_k ?_ | refine awp_exit_k ?_ | refine awp_block_k ?_ | (refine thn_exit ?_; try clear hK K) | (refine thn_ret ?_; try clear hK K) | refine catch_ret ?_ | refine catch_exit ?_ | (refine catch_other ?_ ?_; focus decide)) | ((with_reducible first | apply aops_guard' | apply aopsD_guard' | apply awp_cond_g); focus (simp only [go_sem, hlt]; exact rfl)) | (with_reducible first | refine gk_tt ?_ | refine gk_ff ?_ | refine ck_t ?_ | refine ck_f ?_) | ((with_reducible first | refine gk_tf ?_ | refine gk_ft ?_ | refine gk_u ?_ | refine gk_u' ?_); first | (intro _ e; (first | rw [put_some] at e | rw [put_none] at e); subst e) | (intro _ _ e e'; (first | rw [put_some] at e | rw [put_none] at e); subst e; subst e'))))
    exact hN _ rfl rfl rfl
  | cons r rest ih =>
    intro pre c hpre hc he
    obtain ⟨s, w, k⟩ := r
    have hlt : decide ((pre.length : Int) < (rs.length : Int)) = true := by rw [← hpre]; exact lt_app _ _ _
    have hat : (encR rs)[pre.length]? = some (q3 s w k) := by rw [← hpre]; exact encR_at _ _ _
    have hmem : (s, w, k) ∈ rs := by rw [← hpre]; simp
    have hlen : pre.length < rs.length := by rw [← hpre]; simp
    obtain ⟨b1, b2⟩ := hb _ hmem
    dsimp only at b1 b2
    have hw0 := wrapS (n := pre.length) (by omega)
    have hw1 : IntKind.i64.wrap ((s : Int) + (w : Int)) = ((s + w : Nat) : Int) := by rw [wrapR (by omega) (by omega)]; omega
    have hw2 : IntKind.i64.wrap ((c : Int) + (k : Int)) = ((c + k : Nat) : Int) := by rw [wrapR (by omega) (by omega)]; omega
    have hw3 : IntKind.i64.wrap ((c : Int) + 1) = ((c + 1 : Nat) : Int) := by rw [wrapR (by omega) (by omega)]; omega
    simp only [colL] at he
    cases e1 : decide ((s : Int) ≥ (o : Int)) with
    | true =>
      have := of_decide_eq_true e1
      rw [if_pos (by omega)] at he
      have hN := hN1 c he.symm
      clear hN0 hN1 ih
      refine loopN_k fun K1 hK1 => ?_
      unfold ac10_l1
      (repeat' (first | ((with_reducible first | refine aops_cons' fun C hC => ?_ | refine aopsD_cons' fun C hC => ?_ | intro C hC); simp only [go_sem, hlt, hat, pc_agg, spl, e1]; ((with_reducible first | refine finA hC ?_ | refine finD hC ?_); clear hC C)) | (with_reducible first | refine awp_seq_k fun K hK => ?_ | refine awp_reg_k fun K hK => ?_ | refine awp_dreg_k fun K hK => ?_ | (refine aops_nil ?_; refine hK _ _ ?_; try clear hK K) | (refine aopsD_nil ?_; refine hK _ _ _ ?_ ?_; (focus kernel_rfl); try clear hK K) | (refine thn_normal ?_; refine hK _ _ ?_; try clear hK K) | refine catch_normal ?_ | refine awp_skip_k ?_ | refine awp_ret_k ?_ | refine awp_exit_k ?_ | refine awp_block_k ?_ | (refine thn_exit ?_; try clear hK K) | (refine thn_ret ?_; try clear hK K) | refine catch_ret ?_ | refine catch_exit ?_ | (refine catch_other ?_ ?_; focus decide)) | ((with_reducible first | apply aops_guard' | apply aopsD_guard' | apply awp_cond_g); focus (simp only [go_sem, hlt, hat, pc_agg, spl, e1]; exact rfl)) | (with_reducible first | refine gk_tt ?_ | refine gk_ff ?_ | refine ck_t ?_ | refine ck_f ?_) | ((with_reducible first | refine gk_tf ?_ | refine gk_ft ?_ | refine gk_u ?_ | refine gk_u' ?_); first | (intro _ e; (first | rw [put_some] at e | rw [put_none] at e); subst e) | (intro _ _ e e'; (first | rw [put_some] at e | rw [put_none] at e); subst e; subst e'))))
      exact hN _ _ rfl rfl rfl
    | false =>
      have a1 := of_decide_eq_false e1
      rw [if_neg (by omega)] at he
      cases e2 : decide (((s + w : Nat) : Int) > (o : Int)) with
      | true =>
        have := of_decide_eq_true e2
        rw [if_pos (by omega)] at he
        obtain rfl := hn he.symm
        clear hN0 hN1 ih
        refine loopN_k fun K1 hK1 => ?_
        unfold ac10_l1
        (repeat' (first | ((with_reducible first | refine aops_cons' fun C hC => ?_ | refine aopsD_cons' fun C hC => ?_ | intro C hC); simp only [go_sem, hlt, hat, pc_agg, spl, e1, hw1, e2]; ((with_reducible first | refine finA hC ?_ | refine finD hC ?_); clear hC C)) | (with_reducible first | refine awp_seq_k fun K hK => ?_ | refine awp_reg_k fun K hK => ?_ | refine awp_dreg_k fun K hK => ?_ | (refine aops_nil ?_; refine hK _ _ ?_; try clear hK K) | (refine aopsD_nil ?_; refine hK _ _ _ ?_ ?_; (focus kernel_rfl); try clear hK K) | (refine thn_normal ?_; refine hK _ _ ?_; try clear hK K) | refine catch_normal ?_ | refine awp_skip_k ?_ | refine awp_ret_k ?_ | refine awp_exit_k ?_ | refine awp_block_k ?_ | (refine thn_exit ?_; try clear hK K) | (refine thn_ret ?_; try clear hK K) | refine catch_ret ?_ | refine catch_exit ?_ | (refine catch_other ?_ ?_; focus decide)) | ((with_reducible first | apply aops_guard' | apply aopsD_guard' | apply awp_cond_g); focus (simp only [go_sem, hlt, hat, pc_agg, spl, e1, hw1, e2]; exact rfl)) | (with_reducible first | refine gk_tt ?_ | refine gk_ff ?_ | refine ck_t ?_ | refine ck_f ?_) | ((with_reducible first | refine gk_tf ?_ | refine gk_ft ?_ | refine gk_u ?_ | refine gk_u' ?_); first | (intro _ e; (first | rw [put_some] at e | rw [put_none] at e); subst e) | (intro _ _ e e'; (first | rw [put_some] at e | rw [put_none] at e); subst e; subst e'))))
        (refine retP_ret (List.range 40) rfl ?_; exact vwA)
      | false =>
        have a2 := of_decide_eq_false e2
        rw [if_neg (by omega)] at he
        have ihn := ih (pre ++ [(s, w, k)]) (c + if u then k else 1) (by simp [hpre]) (by rw [List.length_append, List.length_singleton]; split <;> omega) he
        clear hN0 hN1 ih he
        refine loopN_k fun K1 hK1 => ?_
        unfold ac10_l1
        cases u with
        | true =>
          rw [if_pos rfl] at ihn
          (repeat' (first | ((with_reducible first | refine aops_cons' fun C hC => ?_ | refine aopsD_cons' fun C hC => ?_ | intro C hC); simp only [go_sem, hlt, hat, pc_agg, spl, e1, hw1, e2, hw2]; ((with_reducible first | refine finA hC ?_ | refine finD hC ?_); clear hC C)) | (with_reducible first | refine awp_seq_k fun K hK => ?_ | refine awp_reg_k fun K hK => ?_ | refine awp_dreg_k fun K hK => ?_ | (refine aops_nil ?_; refine hK _ _ ?_; try clear hK K) | (refine aopsD_nil ?_; refine hK _ _ _ ?_ ?_; (focus kernel_rfl); try clear hK K) | (refine thn_normal ?_; refine hK _ _ ?_; try clear hK K) | refine catch_normal ?_ | refine awp_skip_k ?_ | refine awp_ret_k ?_ | refine awp_exit_k ?_ | refine awp_block_k ?_ | (refine thn_exit ?_; try clear hK K) | (refine thn_ret ?_; try clear hK K) | refine catch_ret ?_ | refine catch_exit ?_ | (refine catch_other ?_ ?_; focus decide)) | ((with_reducible first | apply aops_guard' | apply aopsD_guard' | apply awp_cond_g); focus (simp only [go_sem, hlt, hat, pc_agg, spl, e1, hw1, e2, hw2]; exact rfl)) | (with_reducible first | refine gk_tt ?_ | refine gk_ff ?_ | refine ck_t ?_ | refine ck_f ?_) | ((with_reducible first | refine gk_tf ?_ | refine gk_ft ?_ | refine gk_u ?_ | refine gk_u' ?_); first | (intro _ e; (first | rw [put_some] at e | rw [put_none] at e); subst e) | (intro _ _ e e'; (first | rw [put_some] at e | rw [put_none] at e); subst e; subst e'))))
          refine thn_normal ?_
          refine hK1 _ _ _ _ _ (LeB [0] (by refine ⟨?_, ?_, ?_⟩ <;> simp only [leFr, leFb, leHp, V.ren, V.renL, V.bd, V.bdL, allL, lt, Go.Ab.get, hget, List.map_cons, List.map_nil, List.length_cons, List.length_nil, List.length_append, List.getElem?_cons_zero, List.getElem?_cons_succ, List.getElem?_nil, Option.join_some, Option.join_none, List.getD_cons_zero, List.getD_cons_succ, List.getD_nil, Nat.reduceAdd, Nat.reduceLT, Nat.reduceEqDiff, Nat.zero_add, reduceIte, if_true, if_false, and_true, true_and, renL_vcells, allL_vcells, renL_pv, leBlk_some, eq_self, true_or, or_true, reduceCtorEq, false_or, allL, hw0, List.length_append])) ihn
        | false =>
          rw [if_neg (by decide)] at ihn
          (repeat' (first | ((with_reducible first | refine aops_cons' fun C hC => ?_ | refine aopsD_cons' fun C hC => ?_ | intro C hC); simp only [go_sem, hlt, hat, pc_agg, spl, e1, hw1, e2, hw3]; ((with_reducible first | refine finA hC ?_ | refine finD hC ?_); clear hC C)) | (with_reducible first | refine awp_seq_k fun K hK => ?_ | refine awp_reg_k fun K hK => ?_ | refine awp_dreg_k fun K hK => ?_ | (refine aops_nil ?_; refine hK _ _ ?_; try clear hK K) | (refine aopsD_nil ?_; refine hK _ _ _ ?_ ?_; (focus kernel_rfl); try clear hK K) | (refine thn_normal ?_; refine hK _ _ ?_; try clear hK K) | refine catch_normal ?_ | refine awp_skip_k ?_ | refine awp_ret_k ?_ | refine awp_exit_k ?_ | refine awp_block_k ?_ | (refine thn_exit ?_; try clear hK K) | (refine thn_ret ?_; try clear hK K) | refine catch_ret ?_ | refine catch_exit ?_ | (refine catch_other ?_ ?_; focus decide)) | ((with_reducible first | apply aops_guard' | apply aopsD_guard' | apply awp_cond_g); focus (simp only [go_sem, hlt, hat, pc_agg, spl, e1, hw1, e2, hw3]; exact rfl)) | (with_reducible first | refine gk_tt ?_ | refine gk_ff ?_ | refine ck_t ?_ | refine ck_f ?_) | ((with_reducible first | refine gk_tf ?_ | refine gk_ft ?_ | refine gk_u ?_ | refine gk_u' ?_); first | (intro _ e; (first | rw [put_some] at e | rw [put_none] at e); subst e) | (intro _ _ e e'; (first | rw [put_some] at e | rw [put_none] at e); subst e; subst e'))))
          refine thn_normal ?_
          refine hK1 _ _ _ _ _ (LeB [0] (by refine ⟨?_, ?_, ?_⟩ <;> simp only [leFr, leFb, leHp, V.ren, V.renL, V.bd, V.bdL, allL, lt, Go.Ab.get, hget, List.map_cons, List.map_nil, List.length_cons, List.length_nil, List.length_append, List.getElem?_cons_zero, List.getElem?_cons_succ, List.getElem?_nil, Option.join_some, Option.join_none, List.getD_cons_zero, List.getD_cons_succ, List.getD_nil, Nat.reduceAdd, Nat.reduceLT, Nat.reduceEqDiff, Nat.zero_add, reduceIte, if_true, if_false, and_true, true_and, renL_vcells, allL_vcells, renL_pv, leBlk_some, eq_self, true_or, or_true, reduceCtorEq, false_or, allL, hw0, List.length_append])) ihn
end Go.Proofs.YtgphapkpoamcgaaDoor
