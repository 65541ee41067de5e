/- A8: joined from G6. -/
import Derived.Test.YtgphapkpoamcgaaFnG
import Derived.Test.YtgphapkpoamcgaaA7
import Derived.Test.YtgphapkpoamcgaaA4
/- Arenas: build, by contract. -/
set_option maxRecDepth 10000
set_option linter.unusedSimpArgs false
set_option linter.unusedVariables false
namespace Go.Proofs.Ytgphapkpoamcgaa
open Go Go.Ab
theorem VwE_st {h : HF} {B : List Nat} : ∀ (ts : List ST), VwE h B 3 (ts.map ST.tc) (encST ts)
  | [] => .nil _
  | t :: ts => .cons _ _ _ _ _ (by rw [pcells_st]; rfl) (by rw [pcells_st]; exact .cons _ _ _ _ (.pv _) (.cons _ _ _ _ (.pv _) (.cons _ _ _ _ (.pv _) .nil))) (VwE_st ts)
theorem row_st {h : HF} {B : List Nat} {b n : Nat} {fl ro : Bool} {ty : Nat} {xs : List ST} {tg : Option (Nat × Nat × Nat)} (hb : b ∈ B) (hk : h b = some ⟨ro, ty, 3, xs.map ST.tc, tg⟩) (hn : n = xs.length) : Vw h B (.row b n fl) (.list 3 (encST xs)) :=
  row_view hb hk (by simp [hn]) (VwE_st xs)
theorem renL_st1 {ρ : Nat → Nat} (t : ST) : V.renL ρ t.tc = t.tc := rfl
theorem bdL_st {S : Nat → Prop} (t : ST) : V.bdL S t.tc = True := by simp [ST.tc, V.bdL, V.bd]
theorem renL_st {ρ : Nat → Nat} (ts : List ST) : (ts.map ST.tc).map (V.renL ρ) = ts.map ST.tc := by
  rw [List.map_map]; exact List.map_congr_left fun p _ => rfl
theorem allL_st {S : Nat → Prop} (ts : List ST) : allL S (ts.map ST.tc) = True := by
  simp only [allL_iff, eq_iff_iff, iff_true]
  intro cs hcs
  obtain ⟨p, _, rfl⟩ := List.mem_map.1 hcs
  simp [ST.tc, V.bdL, V.bd]
theorem bd_stV {S : Nat → Prop} (t : ST) : (V.agg (ST.tc t)).bd S := by simp [ST.tc, V.bd, V.bdL]
theorem bld_bd {ns : List GN} (hd : Dn ns) {f : Nat} {i l : Int} (hi : 0 ≤ i ∧ i < f ∧ i < ns.length) (hl : 0 ≤ l) : -1 ≤ (bld ns f i l).2 ∧ (bld ns f i l).2 ≤ l := by
  obtain ⟨h1, h2⟩ := bld_spec hd f i l hi hl
  have hp := tsz_pos ns f i
  by_cases h : (tsz ns f i : Int) ≤ l
  · rw [h1 h]; simp only; omega
  · rw [h2 (by omega)]; omega
set_option maxHeartbeats 4000000 in
theorem build_ok (ns : List GN) (hdn : Dn ns) (f : Nat) (i l : Int) (hi : 0 ≤ i ∧ i < (f + 1 : Nat) ∧ i < ns.length) (hl0 : 0 ≤ l) (hl4 : l ≤ 4000)
    (hrec : ∀ (c l : Int), (0 ≤ c ∧ c < f ∧ c < ns.length) → 0 ≤ l → l ≤ 4000 → MCall Try.prog 102 [.pv (AR ns), .pv (ii c), .ptr 0 0 0] [some (iB l)] (.agg (ST.tc (bld ns f c l).1)) [some (iB (bld ns f c l).2)]) :
    MCall Try.prog 102 [.pv (AR ns), .pv (ii i), .ptr 0 0 0] [some (iB l)] (.agg (ST.tc (bld ns (f + 1) i l).1)) [some (iB (bld ns (f + 1) i l).2)] := by
  refine MCall.intro' fn102 (by simp) (by simp) (by simp) (LV_1 l) (HpOk_1 l) (HpOk_1 _) ⟨trivial, trivial, LV_1 l 0 (by omega), trivial⟩ (bd_stV _) fun hok m => ?_
  have hokl : PV.okL (encG ns) := by
    have := hok (AR ns) (by simp)
    simp only [AR, PV.okL, PV.ok] at this; exact this.1.2
  clear hok
  obtain ⟨j, rfl⟩ : ∃ j : Nat, i = (j : Int) := ⟨i.toNat, by omega⟩
  have hn := List.getElem?_eq_getElem (show j < ns.length by omega)
  generalize ns[j] = n at hn
  have hlen := ok_gn hokl hn
  have hnt := encG_get hn
  have hch : ∀ c ∈ n.ch, 0 ≤ c ∧ c < (f : Int) ∧ c < ns.length := fun c hc => by have := hdn j n hn c hc; omega
  generalize hR : bld ns (f + 1) (j : Int) l = R
  simp only [bld, Int.toNat_natCast, hn] at hR
  have hw0 : IntKind.i64.wrap (l - 1) = l - 1 := IntWalk.i64_in _ (by omega)
  unfold AR
  unfold ac102
  simp only [argFrV, tagN, List.length_cons, List.length_nil, Option.map_some, Nat.zero_add, iB, Nat.lt_one_iff, if_true]
  (repeat' (first | ((with_reducible first | refine aops_cons' fun C hC => ?_ | refine aopsD_cons' fun C hC => ?_ | intro C hC); simp only [go_sem, hnt, hw0, pcells_gn, encI_len, vc_agg]; ((with_reducible first | refine finA hC ?_ | refine finD hC ?_); clear hC C)) | (with_reducible first | refine awp_seq_k fun K hK => ?_ | refine awp_reg_k fun K hK => ?_ | refine awp_dreg_k fun K hK => ?_ | (refine aops_nil ?_; refine hK _ _ ?_; try clear hK K) | (refine aopsD_nil ?_; refine hK _ _ _ ?_ ?_; (focus kernel_rfl); try clear hK K) | (refine thn_normal ?_; refine hK _ _ ?_; try clear hK K) | refine catch_normal ?_ | refine awp_skip_k ?_ | refine awp_ret_k ?_ | refine awp_exit_k ?_ | refine awp_block_k ?_ | (refine thn_exit ?_; try clear hK K) | (refine thn_ret ?_; try clear hK K) | refine catch_ret ?_ | refine catch_exit ?_ | (refine catch_other ?_ ?_; focus decide)) | ((with_reducible first | apply aops_guard' | apply aopsD_guard' | apply awp_cond_g); focus (simp only [go_sem, hnt, hw0, pcells_gn, encI_len, vc_agg]; exact rfl)) | (with_reducible first | refine gk_tt ?_ | refine gk_ff ?_ | refine ck_t ?_ | refine ck_f ?_) | ((with_reducible first | refine gk_tf ?_ | refine gk_ft ?_ | refine gk_u ?_ | refine gk_u' ?_); first | (intro _ e; (first | rw [put_some] at e | rw [put_none] at e); subst e) | (intro _ _ e e'; (first | rw [put_some] at e | rw [put_none] at e); subst e; subst e'))))
  have rows : ∀ (rest pre : List Int) (acc : List ST) (l' : Int), pre ++ rest = n.ch → bldL (bld ns f) n.ch [] (l - 1) = bldL (bld ns f) rest acc l' → -1 ≤ l' → l' ≤ 4000 → acc.length + rest.length ≤ 1099511627776 → loopN (awp Try.prog ac102_l0) (catch_ 0 (thn K (retM [RV.cell 6 3 true] (.agg (ST.tc R.1)) 1 [some ⟨false, 3, 1, [[.pv (ii R.2)]], none⟩] m))) (rest.length + 1)
     [(29, .pv (ii pre.length)), (28, .pv (ii n.ch.length)), (27, .pv (.list 1 (encI n.ch))), (8, .ptr 4 0 0), (7, .ptr 3 0 0), (6, .ptr 2 0 0), (3, .ptr 1 0 0), (2, .ptr 0 0 0), (1, .pv (ii j))] [some ⟨false, 3, 1, [[.pv (ii l')]], some (m 0)⟩, some ⟨false, 75, 1, [[.pv (.list 4 (encG ns))]], none⟩, some ⟨false, 78, 3, [[.pv (ii 0), .pv (ss ⟨#[]⟩), .pv (.lit (.slice none 0 0))]], none⟩, some ⟨false, 122, 4, [[.pv (ii n.kd), .pv (ii n.w), .pv (ss n.tx), .pv (.list 1 (encI n.ch))]], none⟩, some ⟨false, 78, 3, [[.pv (ii n.kd), .pv (ss n.tx), .row 5 acc.length false]], none⟩, some ⟨false, 78, 3, (acc).map ST.tc, none⟩] := by
    intro rest
    induction rest with
    | nil =>
      intro pre acc l' hpre he hl1 hl2 hal
      have hpre : pre = n.ch := by simpa using hpre
      rw [he] at hR
      simp only [bldL] at hR
      have hlt : decide ((pre.length : Int) < (n.ch.length : Int)) = false := by rw [hpre]; exact lt_end _
      refine loopN_k fun K1 hK1 => ?_
      unfold ac102_l0
      have hld : ∀ (d : Option Nat) (os : List AOp) (K : Fr → Hp → Prop) (fr : Fr), (∀ fr', put d (.pv (ST.mk n.kd n.tx (acc)).enc) fr = fr' → aops Try.prog os fr' [some ⟨false, 3, 1, [[.pv (ii l')]], some (m 0)⟩, some ⟨false, 75, 1, [[.pv (.list 4 (encG ns))]], none⟩, some ⟨false, 78, 3, [[.pv (ii 0), .pv (ss ⟨#[]⟩), .pv (.lit (.slice none 0 0))]], none⟩, some ⟨false, 122, 4, [[.pv (ii n.kd), .pv (ii n.w), .pv (ss n.tx), .pv (.list 1 (encI n.ch))]], none⟩, some ⟨false, 78, 3, [[.pv (ii n.kd), .pv (ss n.tx), .row 5 acc.length false]], none⟩, some ⟨true, 78, 3, (acc).map ST.tc, none⟩] K) → Ab.get fr 8 = .ptr 4 0 0 → aops Try.prog (⟨d, .load true 3 (.tmp 8), none⟩ :: os) fr [some ⟨false, 3, 1, [[.pv (ii l')]], some (m 0)⟩, some ⟨false, 75, 1, [[.pv (.list 4 (encG ns))]], none⟩, some ⟨false, 78, 3, [[.pv (ii 0), .pv (ss ⟨#[]⟩), .pv (.lit (.slice none 0 0))]], none⟩, some ⟨false, 122, 4, [[.pv (ii n.kd), .pv (ii n.w), .pv (ss n.tx), .pv (.list 1 (encI n.ch))]], none⟩, some ⟨false, 78, 3, [[.pv (ii n.kd), .pv (ss n.tx), .row 5 acc.length false]], none⟩, some ⟨false, 78, 3, (acc).map ST.tc, none⟩] K := by
        intro d os K fr h h8
        refine aops_frz rfl [5] (ST.mk n.kd n.tx (acc)).enc fun C hC => ?_
        simp only [go_sem, h8]
        refine hC _ _ _ _ _ ?_ rfl rfl (h _ rfl)
        rw [ST.enc]
        exact .agg _ _ (.cons _ _ _ _ (.pv _) (.cons _ _ _ _ (.pv _) (.cons _ _ _ _ (row_st (xs := acc) (by decide) rfl rfl) .nil)))
      subst hR
      (repeat' (first | ((with_reducible refine hld _ _ _ _ (fun _ e => ?_) rfl); (first | rw [put_some] at e | rw [put_none] at e); subst e) | ((with_reducible first | refine aops_cons' fun C hC => ?_ | refine aopsD_cons' fun C hC => ?_ | intro C hC); simp only [go_sem, hlt, cells_st, ST.tc, kd_st, tx_st, ch_st]; ((with_reducible first | refine finA hC ?_ | refine finD hC ?_); clear hC C)) | (with_reducible first | refine awp_seq_k fun K hK => ?_ | refine awp_reg_k fun K hK => ?_ | refine awp_dreg_k fun K hK => ?_ | (refine aops_nil ?_; refine hK _ _ ?_; try clear hK K) | (refine aopsD_nil ?_; refine hK _ _ _ ?_ ?_; (focus kernel_rfl); try clear hK K) | (refine thn_normal ?_; refine hK _ _ ?_; try clear hK K) | refine catch_normal ?_ | refine awp_skip_k ?_ | refine awp_ret_k ?_ | refine awp_exit_k ?_ | refine awp_block_k ?_ | (refine thn_exit ?_; try clear hK K) | (refine thn_ret ?_; try clear hK K) | refine catch_ret ?_ | refine catch_exit ?_ | (refine catch_other ?_ ?_; focus decide)) | ((with_reducible first | apply aops_guard' | apply aopsD_guard' | apply awp_cond_g); focus (simp only [go_sem, hlt, cells_st, ST.tc, kd_st, tx_st, ch_st]; exact rfl)) | (with_reducible first | refine gk_tt ?_ | refine gk_ff ?_ | refine ck_t ?_ | refine ck_f ?_) | ((with_reducible first | refine gk_tf ?_ | refine gk_ft ?_ | refine gk_u ?_ | refine gk_u' ?_); first | (intro _ e; (first | rw [put_some] at e | rw [put_none] at e); subst e) | (intro _ _ e e'; (first | rw [put_some] at e | rw [put_none] at e); subst e; subst e'))))
      refine ⟨[.agg (ST.tc (ST.mk n.kd n.tx (acc)))], rfl, fun b => [0].getD b 0, ?_⟩
      simp only [tagN, Option.map_some]
      exact (LeB [0] (by refine ⟨?_, ?_, ?_⟩ <;> simp only [leFr, leFb, leHp, V.ren, V.renL, V.bd, V.bdL, allL, lt, Go.Ab.get, hget, List.map_cons, List.map_nil, List.length_cons, List.length_nil, List.length_append, List.getElem?_cons_zero, List.getElem?_cons_succ, List.getElem?_nil, Option.join_some, Option.join_none, List.getD_cons_zero, List.getD_cons_succ, List.getD_nil, Nat.reduceAdd, Nat.reduceLT, Nat.reduceEqDiff, Nat.zero_add, reduceIte, if_true, if_false, and_true, true_and, renL_vcells, allL_vcells, renL_pv, leBlk_some, eq_self, true_or, or_true, reduceCtorEq, false_or, oneW, allL, ST.tc, kd_st, tx_st, ch_st]))
    | cons c rest ih =>
      intro pre acc l' hpre he hl1 hl2 hal
      have hlt : decide ((pre.length : Int) < (n.ch.length : Int)) = true := by rw [← hpre]; exact lt_app _ _ _
      have hat : (encI n.ch)[pre.length]? = some (ii c) := by rw [← hpre]; exact encI_at _ _ _
      have hb : pre.length + 1 ≤ big := by have := congrArg List.length hpre; simp at this; unfold big; omega
      have hw := wrapS (n := pre.length) (by unfold big at hb; omega)
      have hci := hch c (by rw [← hpre]; simp)
      simp only [bldL] at he
      refine loopN_k fun K1 hK1 => ?_
      unfold ac102_l0
      cases h1 : decide (l' ≥ 0) with
      | false =>
        rw [h1, if_neg (by simp)] at he
        (repeat' (first | ((with_reducible first | refine aops_cons' fun C hC => ?_ | refine aopsD_cons' fun C hC => ?_ | intro C hC); simp only [go_sem, hlt, hat, h1]; ((with_reducible first | refine finA hC ?_ | refine finD hC ?_); clear hC C)) | (with_reducible first | refine awp_seq_k fun K hK => ?_ | refine awp_reg_k fun K hK => ?_ | refine awp_dreg_k fun K hK => ?_ | (refine aops_nil ?_; refine hK _ _ ?_; try clear hK K) | (refine aopsD_nil ?_; refine hK _ _ _ ?_ ?_; (focus kernel_rfl); try clear hK K) | (refine thn_normal ?_; refine hK _ _ ?_; try clear hK K) | refine catch_normal ?_ | refine awp_skip_k ?_ | refine awp_ret_k ?_ | refine awp_exit_k ?_ | refine awp_block_k ?_ | (refine thn_exit ?_; try clear hK K) | (refine thn_ret ?_; try clear hK K) | refine catch_ret ?_ | refine catch_exit ?_ | (refine catch_other ?_ ?_; focus decide)) | ((with_reducible first | apply aops_guard' | apply aopsD_guard' | apply awp_cond_g); focus (simp only [go_sem, hlt, hat, h1]; exact rfl)) | (with_reducible first | refine gk_tt ?_ | refine gk_ff ?_ | refine ck_t ?_ | refine ck_f ?_) | ((with_reducible first | refine gk_tf ?_ | refine gk_ft ?_ | refine gk_u ?_ | refine gk_u' ?_); first | (intro _ e; (first | rw [put_some] at e | rw [put_none] at e); subst e) | (intro _ _ e e'; (first | rw [put_some] at e | rw [put_none] at e); subst e; subst e'))))
        refine thn_normal ?_
        refine hK1 _ _ _ _ _ (LeB [0, 1, 2, 3, 4, 5] (by refine ⟨?_, ?_, ?_⟩ <;> simp only [leFr, leFb, leHp, V.ren, V.renL, V.bd, V.bdL, allL, lt, Go.Ab.get, hget, List.map_cons, List.map_nil, List.length_cons, List.length_nil, List.length_append, List.getElem?_cons_zero, List.getElem?_cons_succ, List.getElem?_nil, Option.join_some, Option.join_none, List.getD_cons_zero, List.getD_cons_succ, List.getD_nil, Nat.reduceAdd, Nat.reduceLT, Nat.reduceEqDiff, Nat.zero_add, reduceIte, if_true, if_false, and_true, true_and, renL_vcells, allL_vcells, renL_pv, leBlk_some, eq_self, true_or, or_true, reduceCtorEq, false_or, hw, List.length_append, renL_st, renL_st1, allL_st, allL_app, bdL_st, allL])) (ih (pre ++ [c]) acc l' (by simp [hpre]) he hl1 hl2 (by simp at hal; omega))
      | true =>
        rw [h1, if_pos rfl] at he
        have hl0 := of_decide_eq_true h1
        have hc := hrec c l' hci hl0 hl2
        have hbd := bld_bd hdn (f := f) (i := c) (l := l') hci hl0
        rw [AR] at hc
        generalize bld ns f c l' = q at hc he hbd
        (repeat' (first | ((with_reducible first | refine aops_cons' fun C hC => ?_ | refine aopsD_cons' fun C hC => ?_ | intro C hC); simp only [go_sem, hlt, hat, h1]; ((with_reducible first | refine finA hC ?_ | refine finD hC ?_); clear hC C)) | (with_reducible first | refine awp_seq_k fun K hK => ?_ | refine awp_reg_k fun K hK => ?_ | refine awp_dreg_k fun K hK => ?_ | (refine aops_nil ?_; refine hK _ _ ?_; try clear hK K) | (refine aopsD_nil ?_; refine hK _ _ _ ?_ ?_; (focus kernel_rfl); try clear hK K) | (refine thn_normal ?_; refine hK _ _ ?_; try clear hK K) | refine catch_normal ?_ | refine awp_skip_k ?_ | refine awp_ret_k ?_ | refine awp_exit_k ?_ | refine awp_block_k ?_ | (refine thn_exit ?_; try clear hK K) | (refine thn_ret ?_; try clear hK K) | refine catch_ret ?_ | refine catch_exit ?_ | (refine catch_other ?_ ?_; focus decide)) | ((with_reducible first | apply aops_guard' | apply aopsD_guard' | apply awp_cond_g); focus (simp only [go_sem, hlt, hat, h1]; exact rfl)) | (with_reducible first | refine gk_tt ?_ | refine gk_ff ?_ | refine ck_t ?_ | refine ck_f ?_) | ((with_reducible first | refine gk_tf ?_ | refine gk_ft ?_ | refine gk_u ?_ | refine gk_u' ?_); first | (intro _ e; (first | rw [put_some] at e | rw [put_none] at e); subst e) | (intro _ _ e e'; (first | rw [put_some] at e | rw [put_none] at e); subst e; subst e'))))
        refine aopsD_call fun C hC => ?_
        simp only [go_sem]
        refine ACall.heap [0] hc rfl (by decide) (by decide) (VM.pv (.agg [.pv (.list 4 (encG ns))]) _ _ _ (.agg _ _ (.cons _ _ _ _ (.pv _) .nil)) (VM.eq (.pv (ii c)) _ _ (VM.eq (.ptr 0 0 0) _ _ .nil))) (hh1 rfl) ?_
        simp only [V.ren, V.renL, outD, outB, rho0, hget_zero, Option.map_some, Option.bind_some, iB, ST.tc, List.map_cons, List.map_nil]
        (with_reducible refine finD hC ?_); clear hC C
        have hub : acc.length + 1 ≤ big := by simp at hal; unfold big; omega
        (repeat' (first | ((with_reducible first | refine aops_cons' fun C hC => ?_ | refine aopsD_cons' fun C hC => ?_ | intro C hC); simp only [go_sem, List.length_map, hub]; ((with_reducible first | refine finA hC ?_ | refine finD hC ?_); clear hC C)) | (with_reducible first | refine awp_seq_k fun K hK => ?_ | refine awp_reg_k fun K hK => ?_ | refine awp_dreg_k fun K hK => ?_ | (refine aops_nil ?_; refine hK _ _ ?_; try clear hK K) | (refine aopsD_nil ?_; refine hK _ _ _ ?_ ?_; (focus kernel_rfl); try clear hK K) | (refine thn_normal ?_; refine hK _ _ ?_; try clear hK K) | refine catch_normal ?_ | refine awp_skip_k ?_ | refine awp_ret_k ?_ | refine awp_exit_k ?_ | refine awp_block_k ?_ | (refine thn_exit ?_; try clear hK K) | (refine thn_ret ?_; try clear hK K) | refine catch_ret ?_ | refine catch_exit ?_ | (refine catch_other ?_ ?_; focus decide)) | ((with_reducible first | apply aops_guard' | apply aopsD_guard' | apply awp_cond_g); focus (simp only [go_sem, List.length_map, hub]; exact rfl)) | (with_reducible first | refine gk_tt ?_ | refine gk_ff ?_ | refine ck_t ?_ | refine ck_f ?_) | ((with_reducible first | refine gk_tf ?_ | refine gk_ft ?_ | refine gk_u ?_ | refine gk_u' ?_); first | (intro _ e; (first | rw [put_some] at e | rw [put_none] at e); subst e) | (intro _ _ e e'; (first | rw [put_some] at e | rw [put_none] at e); subst e; subst e'))))
        refine thn_normal ?_
        refine hK1 _ _ _ _ _ (LeB [0, 1, 2, 3, 4, 13] (by refine ⟨?_, ?_, ?_⟩ <;> simp only [leFr, leFb, leHp, V.ren, V.renL, V.bd, V.bdL, allL, lt, Go.Ab.get, hget, List.map_cons, List.map_nil, List.length_cons, List.length_nil, List.length_append, List.getElem?_cons_zero, List.getElem?_cons_succ, List.getElem?_nil, Option.join_some, Option.join_none, List.getD_cons_zero, List.getD_cons_succ, List.getD_nil, Nat.reduceAdd, Nat.reduceLT, Nat.reduceEqDiff, Nat.zero_add, reduceIte, if_true, if_false, and_true, true_and, renL_vcells, allL_vcells, renL_pv, leBlk_some, eq_self, true_or, or_true, reduceCtorEq, false_or, hw, List.length_append, List.map_append, List.map_cons, List.map_nil, renL_st, renL_st1, allL_st, allL_app, bdL_st, allL, ST.tc])) (ih (pre ++ [c]) (acc ++ [q.1]) q.2 (by simp [hpre]) he hbd.1 (by omega) (by simp at hal ⊢; omega))
  have first : ∀ (rest pre : List Int) (l' : Int), pre ++ rest = n.ch → bldL (bld ns f) n.ch [] (l - 1) = bldL (bld ns f) rest [] l' → -1 ≤ l' → l' ≤ 4000 → loopN (awp Try.prog ac102_l0) (catch_ 0 (thn K (retM [RV.cell 6 3 true] (.agg (ST.tc R.1)) 1 [some ⟨false, 3, 1, [[.pv (ii R.2)]], none⟩] m))) (rest.length + 1)
     [(29, .pv (ii pre.length)), (28, .pv (ii n.ch.length)), (27, .pv (.list 1 (encI n.ch))), (8, .ptr 4 0 0), (7, .ptr 3 0 0), (6, .ptr 2 0 0), (3, .ptr 1 0 0), (2, .ptr 0 0 0), (1, .pv (ii j))] [some ⟨false, 3, 1, [[.pv (ii l')]], some (m 0)⟩, some ⟨false, 75, 1, [[.pv (.list 4 (encG ns))]], none⟩, some ⟨false, 78, 3, [[.pv (ii 0), .pv (ss ⟨#[]⟩), .pv (.lit (.slice none 0 0))]], none⟩, some ⟨false, 122, 4, [[.pv (ii n.kd), .pv (ii n.w), .pv (ss n.tx), .pv (.list 1 (encI n.ch))]], none⟩, some ⟨false, 78, 3, [[.pv (ii n.kd), .pv (ss n.tx), .pv (.lit (.slice none 0 0))]], none⟩] := by
    intro rest
    induction rest with
    | nil =>
      intro pre l' hpre he hl1 hl2
      have hpre : pre = n.ch := by simpa using hpre
      rw [he] at hR
      simp only [bldL] at hR
      have hlt : decide ((pre.length : Int) < (n.ch.length : Int)) = false := by rw [hpre]; exact lt_end _
      refine loopN_k fun K1 hK1 => ?_
      unfold ac102_l0
      have hld : ∀ (d : Option Nat) (os : List AOp) (K : Fr → Hp → Prop) (fr : Fr), (∀ fr', put d (.pv (ST.mk n.kd n.tx ([])).enc) fr = fr' → aops Try.prog os fr' [some ⟨false, 3, 1, [[.pv (ii l')]], some (m 0)⟩, some ⟨false, 75, 1, [[.pv (.list 4 (encG ns))]], none⟩, some ⟨false, 78, 3, [[.pv (ii 0), .pv (ss ⟨#[]⟩), .pv (.lit (.slice none 0 0))]], none⟩, some ⟨false, 122, 4, [[.pv (ii n.kd), .pv (ii n.w), .pv (ss n.tx), .pv (.list 1 (encI n.ch))]], none⟩, some ⟨false, 78, 3, [[.pv (ii n.kd), .pv (ss n.tx), .pv (.lit (.slice none 0 0))]], none⟩] K) → Ab.get fr 8 = .ptr 4 0 0 → aops Try.prog (⟨d, .load true 3 (.tmp 8), none⟩ :: os) fr [some ⟨false, 3, 1, [[.pv (ii l')]], some (m 0)⟩, some ⟨false, 75, 1, [[.pv (.list 4 (encG ns))]], none⟩, some ⟨false, 78, 3, [[.pv (ii 0), .pv (ss ⟨#[]⟩), .pv (.lit (.slice none 0 0))]], none⟩, some ⟨false, 122, 4, [[.pv (ii n.kd), .pv (ii n.w), .pv (ss n.tx), .pv (.list 1 (encI n.ch))]], none⟩, some ⟨false, 78, 3, [[.pv (ii n.kd), .pv (ss n.tx), .pv (.lit (.slice none 0 0))]], none⟩] K := by
        intro d os K fr h h8
        refine aops_frz rfl [] (ST.mk n.kd n.tx ([])).enc fun C hC => ?_
        simp only [go_sem, h8]
        refine hC _ _ _ _ _ ?_ rfl rfl (h _ rfl)
        rw [ST.enc]
        exact .agg _ _ (.cons _ _ _ _ (.pv _) (.cons _ _ _ _ (.pv _) (.cons _ _ _ _ (Vw_nil) .nil)))
      subst hR
      (repeat' (first | ((with_reducible refine hld _ _ _ _ (fun _ e => ?_) rfl); (first | rw [put_some] at e | rw [put_none] at e); subst e) | ((with_reducible first | refine aops_cons' fun C hC => ?_ | refine aopsD_cons' fun C hC => ?_ | intro C hC); simp only [go_sem, hlt, cells_st, ST.tc, kd_st, tx_st, ch_st]; ((with_reducible first | refine finA hC ?_ | refine finD hC ?_); clear hC C)) | (with_reducible first | refine awp_seq_k fun K hK => ?_ | refine awp_reg_k fun K hK => ?_ | refine awp_dreg_k fun K hK => ?_ | (refine aops_nil ?_; refine hK _ _ ?_; try clear hK K) | (refine aopsD_nil ?_; refine hK _ _ _ ?_ ?_; (focus kernel_rfl); try clear hK K) | (refine thn_normal ?_; refine hK _ _ ?_; try clear hK K) | refine catch_normal ?_ | refine awp_skip_k ?_ | refine awp_ret_k ?_ | refine awp_exit_k ?_ | refine awp_block_k ?_ | (refine thn_exit ?_; try clear hK K) | (refine thn_ret ?_; try clear hK K) | refine catch_ret ?_ | refine catch_exit ?_ | (refine catch_other ?_ ?_; focus decide)) | ((with_reducible first | apply aops_guard' | apply aopsD_guard' | apply awp_cond_g); focus (simp only [go_sem, hlt, cells_st, ST.tc, kd_st, tx_st, ch_st]; exact rfl)) | (with_reducible first | refine gk_tt ?_ | refine gk_ff ?_ | refine ck_t ?_ | refine ck_f ?_) | ((with_reducible first | refine gk_tf ?_ | refine gk_ft ?_ | refine gk_u ?_ | refine gk_u' ?_); first | (intro _ e; (first | rw [put_some] at e | rw [put_none] at e); subst e) | (intro _ _ e e'; (first | rw [put_some] at e | rw [put_none] at e); subst e; subst e'))))
      refine ⟨[.agg (ST.tc (ST.mk n.kd n.tx ([])))], rfl, fun b => [0].getD b 0, ?_⟩
      simp only [tagN, Option.map_some]
      exact (LeB [0] (by refine ⟨?_, ?_, ?_⟩ <;> simp only [leFr, leFb, leHp, V.ren, V.renL, V.bd, V.bdL, allL, lt, Go.Ab.get, hget, List.map_cons, List.map_nil, List.length_cons, List.length_nil, List.length_append, List.getElem?_cons_zero, List.getElem?_cons_succ, List.getElem?_nil, Option.join_some, Option.join_none, List.getD_cons_zero, List.getD_cons_succ, List.getD_nil, Nat.reduceAdd, Nat.reduceLT, Nat.reduceEqDiff, Nat.zero_add, reduceIte, if_true, if_false, and_true, true_and, renL_vcells, allL_vcells, renL_pv, leBlk_some, eq_self, true_or, or_true, reduceCtorEq, false_or, oneW, allL, ST.tc, kd_st, tx_st, ch_st]))
    | cons c rest ih =>
      intro pre l' hpre he hl1 hl2
      have hlt : decide ((pre.length : Int) < (n.ch.length : Int)) = true := by rw [← hpre]; exact lt_app _ _ _
      have hat : (encI n.ch)[pre.length]? = some (ii c) := by rw [← hpre]; exact encI_at _ _ _
      have hb : pre.length + 1 ≤ big := by have := congrArg List.length hpre; simp at this; unfold big; omega
      have hw := wrapS (n := pre.length) (by unfold big at hb; omega)
      have hci := hch c (by rw [← hpre]; simp)
      simp only [bldL] at he
      refine loopN_k fun K1 hK1 => ?_
      unfold ac102_l0
      cases h1 : decide (l' ≥ 0) with
      | false =>
        rw [h1, if_neg (by simp)] at he
        (repeat' (first | ((with_reducible first | refine aops_cons' fun C hC => ?_ | refine aopsD_cons' fun C hC => ?_ | intro C hC); simp only [go_sem, hlt, hat, h1]; ((with_reducible first | refine finA hC ?_ | refine finD hC ?_); clear hC C)) | (with_reducible first | refine awp_seq_k fun K hK => ?_ | refine awp_reg_k fun K hK => ?_ | refine awp_dreg_k fun K hK => ?_ | (refine aops_nil ?_; refine hK _ _ ?_; try clear hK K) | (refine aopsD_nil ?_; refine hK _ _ _ ?_ ?_; (focus kernel_rfl); try clear hK K) | (refine thn_normal ?_; refine hK _ _ ?_; try clear hK K) | refine catch_normal ?_ | refine awp_skip_k ?_ | refine awp_ret_k ?_ | refine awp_exit_k ?_ | refine awp_block_k ?_ | (refine thn_exit ?_; try clear hK K) | (refine thn_ret ?_; try clear hK K) | refine catch_ret ?_ | refine catch_exit ?_ | (refine catch_other ?_ ?_; focus decide)) | ((with_reducible first | apply aops_guard' | apply aopsD_guard' | apply awp_cond_g); focus (simp only [go_sem, hlt, hat, h1]; exact rfl)) | (with_reducible first | refine gk_tt ?_ | refine gk_ff ?_ | refine ck_t ?_ | refine ck_f ?_) | ((with_reducible first | refine gk_tf ?_ | refine gk_ft ?_ | refine gk_u ?_ | refine gk_u' ?_); first | (intro _ e; (first | rw [put_some] at e | rw [put_none] at e); subst e) | (intro _ _ e e'; (first | rw [put_some] at e | rw [put_none] at e); subst e; subst e'))))
        refine thn_normal ?_
        refine hK1 _ _ _ _ _ (LeB [0, 1, 2, 3, 4] (by refine ⟨?_, ?_, ?_⟩ <;> simp only [leFr, leFb, leHp, V.ren, V.renL, V.bd, V.bdL, allL, lt, Go.Ab.get, hget, List.map_cons, List.map_nil, List.length_cons, List.length_nil, List.length_append, List.getElem?_cons_zero, List.getElem?_cons_succ, List.getElem?_nil, Option.join_some, Option.join_none, List.getD_cons_zero, List.getD_cons_succ, List.getD_nil, Nat.reduceAdd, Nat.reduceLT, Nat.reduceEqDiff, Nat.zero_add, reduceIte, if_true, if_false, and_true, true_and, renL_vcells, allL_vcells, renL_pv, leBlk_some, eq_self, true_or, or_true, reduceCtorEq, false_or, hw, List.length_append, renL_st, renL_st1, allL_st, allL_app, bdL_st, allL])) (ih (pre ++ [c]) l' (by simp [hpre]) he hl1 hl2)
      | true =>
        rw [h1, if_pos rfl] at he
        have hl0 := of_decide_eq_true h1
        have hc := hrec c l' hci hl0 hl2
        have hbd := bld_bd hdn (f := f) (i := c) (l := l') hci hl0
        rw [AR] at hc
        generalize bld ns f c l' = q at hc he hbd
        (repeat' (first | ((with_reducible first | refine aops_cons' fun C hC => ?_ | refine aopsD_cons' fun C hC => ?_ | intro C hC); simp only [go_sem, hlt, hat, h1]; ((with_reducible first | refine finA hC ?_ | refine finD hC ?_); clear hC C)) | (with_reducible first | refine awp_seq_k fun K hK => ?_ | refine awp_reg_k fun K hK => ?_ | refine awp_dreg_k fun K hK => ?_ | (refine aops_nil ?_; refine hK _ _ ?_; try clear hK K) | (refine aopsD_nil ?_; refine hK _ _ _ ?_ ?_; (focus kernel_rfl); try clear hK K) | (refine thn_normal ?_; refine hK _ _ ?_; try clear hK K) | refine catch_normal ?_ | refine awp_skip_k ?_ | refine awp_ret_k ?_ | refine awp_exit_k ?_ | refine awp_block_k ?_ | (refine thn_exit ?_; try clear hK K) | (refine thn_ret ?_; try clear hK K) | refine catch_ret ?_ | refine catch_exit ?_ | (refine catch_other ?_ ?_; focus decide)) | ((with_reducible first | apply aops_guard' | apply aopsD_guard' | apply awp_cond_g); focus (simp only [go_sem, hlt, hat, h1]; exact rfl)) | (with_reducible first | refine gk_tt ?_ | refine gk_ff ?_ | refine ck_t ?_ | refine ck_f ?_) | ((with_reducible first | refine gk_tf ?_ | refine gk_ft ?_ | refine gk_u ?_ | refine gk_u' ?_); first | (intro _ e; (first | rw [put_some] at e | rw [put_none] at e); subst e) | (intro _ _ e e'; (first | rw [put_some] at e | rw [put_none] at e); subst e; subst e'))))
        refine aopsD_call fun C hC => ?_
        simp only [go_sem]
        refine ACall.heap [0] hc rfl (by decide) (by decide) (VM.pv (.agg [.pv (.list 4 (encG ns))]) _ _ _ (.agg _ _ (.cons _ _ _ _ (.pv _) .nil)) (VM.eq (.pv (ii c)) _ _ (VM.eq (.ptr 0 0 0) _ _ .nil))) (hh1 rfl) ?_
        simp only [V.ren, V.renL, outD, outB, rho0, hget_zero, Option.map_some, Option.bind_some, iB, ST.tc, List.map_cons, List.map_nil]
        (with_reducible refine finD hC ?_); clear hC C
        (repeat' (first | ((with_reducible first | refine aops_cons' fun C hC => ?_ | refine aopsD_cons' fun C hC => ?_ | intro C hC); simp only [go_sem]; ((with_reducible first | refine finA hC ?_ | refine finD hC ?_); clear hC C)) | (with_reducible first | refine awp_seq_k fun K hK => ?_ | refine awp_reg_k fun K hK => ?_ | refine awp_dreg_k fun K hK => ?_ | (refine aops_nil ?_; refine hK _ _ ?_; try clear hK K) | (refine aopsD_nil ?_; refine hK _ _ _ ?_ ?_; (focus kernel_rfl); try clear hK K) | (refine thn_normal ?_; refine hK _ _ ?_; try clear hK K) | refine catch_normal ?_ | refine awp_skip_k ?_ | refine awp_ret_k ?_ | refine awp_exit_k ?_ | refine awp_block_k ?_ | (refine thn_exit ?_; try clear hK K) | (refine thn_ret ?_; try clear hK K) | refine catch_ret ?_ | refine catch_exit ?_ | (refine catch_other ?_ ?_; focus decide)) | ((with_reducible first | apply aops_guard' | apply aopsD_guard' | apply awp_cond_g); focus (simp only [go_sem]; exact rfl)) | (with_reducible first | refine gk_tt ?_ | refine gk_ff ?_ | refine ck_t ?_ | refine ck_f ?_) | ((with_reducible first | refine gk_tf ?_ | refine gk_ft ?_ | refine gk_u ?_ | refine gk_u' ?_); first | (intro _ e; (first | rw [put_some] at e | rw [put_none] at e); subst e) | (intro _ _ e e'; (first | rw [put_some] at e | rw [put_none] at e); subst e; subst e'))))
        refine thn_normal ?_
        refine hK1 _ _ _ _ _ (LeB [0, 1, 2, 3, 4, 12] (by refine ⟨?_, ?_, ?_⟩ <;> simp only [leFr, leFb, leHp, V.ren, V.renL, V.bd, V.bdL, allL, lt, Go.Ab.get, hget, List.map_cons, List.map_nil, List.length_cons, List.length_nil, List.length_append, List.getElem?_cons_zero, List.getElem?_cons_succ, List.getElem?_nil, Option.join_some, Option.join_none, List.getD_cons_zero, List.getD_cons_succ, List.getD_nil, Nat.reduceAdd, Nat.reduceLT, Nat.reduceEqDiff, Nat.zero_add, reduceIte, if_true, if_false, and_true, true_and, renL_vcells, allL_vcells, renL_pv, leBlk_some, eq_self, true_or, or_true, reduceCtorEq, false_or, hw, List.length_append, List.map_append, List.map_cons, List.map_nil, renL_st, renL_st1, allL_st, allL_app, bdL_st, allL, ST.tc])) (rows rest (pre ++ [c]) [q.1] q.2 (by simp [hpre]) (by simpa using he) hbd.1 (by omega) (by have := congrArg List.length hpre; simp at this ⊢; omega))
  refine awp_loop_k _ (LeB [0, 1, 2, 3, 4] (by refine ⟨?_, ?_, ?_⟩ <;> simp only [leFr, leFb, leHp, V.ren, V.renL, V.bd, V.bdL, allL, lt, Go.Ab.get, hget, List.map_cons, List.map_nil, List.length_cons, List.length_nil, List.length_append, List.getElem?_cons_zero, List.getElem?_cons_succ, List.getElem?_nil, Option.join_some, Option.join_none, List.getD_cons_zero, List.getD_cons_succ, List.getD_nil, Nat.reduceAdd, Nat.reduceLT, Nat.reduceEqDiff, Nat.zero_add, reduceIte, if_true, if_false, and_true, true_and, renL_vcells, allL_vcells, renL_pv, leBlk_some, eq_self, true_or, or_true, reduceCtorEq, false_or, c0, allL, List.length_nil])) (first n.ch [] (l - 1) rfl rfl (by omega) (by omega))
theorem buildF_ok (ns : List GN) (hdn : Dn ns) : ∀ (f : Nat) (i l : Int), (0 ≤ i ∧ i < f ∧ i < ns.length) → 0 ≤ l → l ≤ 4000 → MCall Try.prog 102 [.pv (AR ns), .pv (ii i), .ptr 0 0 0] [some (iB l)] (.agg (ST.tc (bld ns f i l).1)) [some (iB (bld ns f i l).2)]
  | 0, i, l, hi, _, _ => by omega
  | f + 1, i, l, hi, h0, h4 => build_ok ns hdn f i l hi h0 h4 (buildF_ok ns hdn f)
-- more
end Go.Proofs.Ytgphapkpoamcgaa
