/- A7: joined from G5. -/
import Derived.Test.YtgphapkpoamcgaaFnG
import Derived.Test.YtgphapkpoamcgaaA6
/- Syntax trees: exceeds, by contract. -/
set_option maxRecDepth 10000
set_option linter.unusedSimpArgs false
set_option linter.unusedVariables false
namespace Go.Proofs.Ytgphapkpoamcgaa
open Go Go.Ab
theorem RL_okv {G : Gh} : ∀ {vs : List V} {us : List Value}, RL G vs us → ∀ p, V.pv p ∈ vs → p.ok
  | [], us, _, p, h => by cases h
  | v :: vs, us, r, p, h => by
    simp only [RL] at r
    obtain ⟨u, us', rfl, r1, r2⟩ := r
    rcases List.mem_cons.1 h with rfl | h
    · simp only [R] at r1; exact RP_ok _ _ r1
    · exact RL_okv r2 p h
theorem MCall.intro' {P : Program} {f : FuncId} {N : Nat} {ac : AC} {rs : List RV} (hf : Fun P f N ac rs) {vs : List V} {v : V} {H0 H1 : Hp} (hN : vs.length ≤ N) (h1 : H0.length ≤ H1.length) (h2 : H1.length ≤ H0.length + 1) (h3 : ∀ b, b < H0.length → LV H0 b) (h4 : HpOk H0) (h5 : HpOk H1)
    (h6 : V.bdL (LV H0) vs) (h7 : v.bd (LV H1)) (h : (∀ p, V.pv p ∈ vs → p.ok) → ∀ m, awp P ac (retM rs v H0.length H1 m) (argFrV 0 vs) (tagN m H0.length 0 H0)) : MCall P f vs H0 v H1 := by
  by_cases hok : ∀ p, V.pv p ∈ vs → p.ok
  · exact MCall.intro hf hN h1 h2 h3 h4 h5 h6 h7 (h hok)
  · obtain ⟨fn, c, e1, e2, e3, _⟩ := hf.ex
    exact ⟨⟨fn, e1, by rw [e2]; rfl, e3⟩, h1, h2, h3, h4, h5, h6, h7, fun G w us rel hus => absurd (RL_okv hus) hok⟩
def iB (l : Int) : Blk := ⟨false, 3, 1, [[.pv (ii l)]], none⟩
def pB (b : Nat) : Blk := ⟨false, 126, 1, [[.ptr b 0 0]], none⟩
def x3 (d l : Int) : Hp := [some (iB d), some (pB 2), some (iB l)]
theorem HpOk_1 (l : Int) : HpOk [some (iB l)] := by
  refine ⟨fun b k e => ?_, fun b k e => ?_⟩ <;> (cases b with
    | zero => simp only [hget, List.getElem?_cons_zero, Option.join_some, Option.some.injEq] at e; subst e; first | rfl | (intro cs hcs; simp only [iB, List.mem_singleton] at hcs; subst hcs; simp [V.bdL, V.bd])
    | succ b => simp [hget] at e)
theorem LV_1 (l : Int) : ∀ b, b < 1 → LV [some (iB l)] b := fun b hb => by
  obtain rfl : b = 0 := by omega
  exact ⟨_, rfl⟩
theorem LV_3 (d l : Int) : ∀ b, b < 3 → LV (x3 d l) b := fun b hb => by
  rcases b with _ | _ | _ | b
  · exact ⟨_, rfl⟩
  · exact ⟨_, rfl⟩
  · exact ⟨_, rfl⟩
  · omega
theorem HpOk_3 (d l : Int) : HpOk (x3 d l) := by
  refine ⟨fun b k e => ?_, fun b k e => ?_⟩
  · rcases b with _ | _ | _ | b <;> (simp only [x3, hget, List.getElem?_cons_zero, List.getElem?_cons_succ, List.getElem?_nil, Option.join_some, Option.join_none, Option.some.injEq] at e) <;> first | (subst e; rfl) | (cases e)
  · rcases b with _ | _ | _ | b <;> (simp only [x3, hget, List.getElem?_cons_zero, List.getElem?_cons_succ, List.getElem?_nil, Option.join_some, Option.join_none, Option.some.injEq] at e)
    · subst e; intro cs hcs; simp only [iB, List.mem_singleton] at hcs; subst hcs; simp [V.bdL, V.bd]
    · subst e; intro cs hcs; simp only [pB, List.mem_singleton] at hcs; subst hcs; simp only [V.bdL, V.bd, and_true]; exact LV_3 d l 2 (by omega)
    · subst e; intro cs hcs; simp only [iB, List.mem_singleton] at hcs; subst hcs; simp [V.bdL, V.bd]
    · cases e
theorem hh1 {h : HF} {a nb : Nat} {l : Int} {tg : Option (Nat × Nat × Nat)} (h0 : h a = some ⟨false, 3, 1, [[.pv (ii l)]], tg⟩) :
    ∀ i k, hget [some (iB l)] i = some k → ∃ k', h (rho [a] nb i) = some k' ∧ BlkWk (rho [a] nb) k' k := fun i k e => by
  cases i with
  | zero =>
    simp only [hget, List.getElem?_cons_zero, Option.join_some, Option.some.injEq] at e
    subst e
    exact ⟨_, h0, rfl, rfl, rfl, WkX.refl _⟩
  | succ i => simp [hget] at e
theorem hh3 {h : HF} {a b c nb : Nat} {d l : Int} {t0 t1 t2 : Option (Nat × Nat × Nat)} (h0 : h a = some ⟨false, 3, 1, [[.pv (ii d)]], t0⟩) (h1 : h b = some ⟨false, 126, 1, [[.ptr c 0 0]], t1⟩) (h2 : h c = some ⟨false, 3, 1, [[.pv (ii l)]], t2⟩) :
    ∀ i k, hget (x3 d l) i = some k → ∃ k', h (rho [a, b, c] nb i) = some k' ∧ BlkWk (rho [a, b, c] nb) k' k := fun i k e => by
  rcases i with _ | _ | _ | i <;> (simp only [x3, hget, List.getElem?_cons_zero, List.getElem?_cons_succ, List.getElem?_nil, Option.join_some, Option.join_none, Option.some.injEq] at e)
  · subst e; exact ⟨_, h0, rfl, rfl, rfl, WkX.refl _⟩
  · subst e; exact ⟨_, h1, rfl, rfl, rfl, WkX.refl _⟩
  · subst e; exact ⟨_, h2, rfl, rfl, rfl, WkX.refl _⟩
  · cases e
theorem r3a {a b c nb : Nat} : rho [a, b, c] nb 0 = a := rfl
theorem r3b {a b c nb : Nat} : rho [a, b, c] nb 1 = b := rfl
theorem r3c {a b c nb : Nat} : rho [a, b, c] nb 2 = c := rfl
set_option maxHeartbeats 1000000 in
theorem exc1_ok {t : ST} {d l : Int} (hw : IntKind.i64.wrap (d + 1) = d + 1) (h : MCall Try.prog 98 [.pv t.enc, .pv (ii (d + 1)), .ptr 0 0 0] [some (iB l)] (.pv (bb false)) [some (iB (l - sz t))]) :
    MCall Try.prog 117 [.pv t.enc, .ptr 0 0 0, .ptr 1 0 0] (x3 d l) (.pv (bb false)) (x3 d (l - sz t)) := by
  refine MCall.intro fn117 (by simp) (by simp [x3]) (by simp [x3]) (LV_3 d l) (HpOk_3 d l) (HpOk_3 d _) ⟨trivial, LV_3 d l 0 (by omega), LV_3 d l 1 (by omega), trivial⟩ trivial fun m => ?_
  unfold ac117
  simp only [argFrV, x3, tagN, List.length_cons, List.length_nil, Option.map_some, Nat.zero_add, iB, pB, Nat.reduceLT, if_true]
  (repeat' (first | ((with_reducible first | refine aops_cons' fun C hC => ?_ | refine aopsD_cons' fun C hC => ?_ | intro C hC); simp only [go_sem, cells_st, ST.tc, hw]; ((with_reducible first | refine finA hC ?_ | refine finD hC ?_); clear hC C)) | (with_reducible first | refine awp_seq_k fun K hK => ?_ | refine awp_reg_k fun K hK => ?_ | refine awp_dreg_k fun K hK => ?_ | (refine aops_nil ?_; refine hK _ _ ?_; try clear hK K) | (refine aopsD_nil ?_; refine hK _ _ _ ?_ ?_; (focus kernel_rfl); try clear hK K) | (refine thn_normal ?_; refine hK _ _ ?_; try clear hK K) | refine catch_normal ?_ | refine awp_skip_k ?_ | refine awp_ret_k ?_ | refine awp_exit_k ?_ | refine awp_block_k ?_ | (refine thn_exit ?_; try clear hK K) | (refine thn_ret ?_; try clear hK K) | refine catch_ret ?_ | refine catch_exit ?_ | (refine catch_other ?_ ?_; focus decide)) | ((with_reducible first | apply aops_guard' | apply aopsD_guard' | apply awp_cond_g); focus (simp only [go_sem, cells_st, ST.tc, hw]; exact rfl)) | (with_reducible first | refine gk_tt ?_ | refine gk_ff ?_ | refine ck_t ?_ | refine ck_f ?_) | ((with_reducible first | refine gk_tf ?_ | refine gk_ft ?_ | refine gk_u ?_ | refine gk_u' ?_); first | (intro _ e; (first | rw [put_some] at e | rw [put_none] at e); subst e) | (intro _ _ e e'; (first | rw [put_some] at e | rw [put_none] at e); subst e; subst e'))))
  refine aops_call fun C hC => ?_
  simp only [go_sem]
  refine ACall.heap [2] h rfl (by decide) (by decide) (VM.pv (.agg [.pv (ii t.kd), .pv (ss t.tx), .pv (.list 3 (encST t.ch))]) _ _ _ (by rw [enc_st]; exact .agg _ _ (.cons _ _ _ _ (.pv _) (.cons _ _ _ _ (.pv _) (.cons _ _ _ _ (.pv _) .nil)))) (VM.eq (.pv (ii (d + 1))) _ _ (VM.eq (.ptr 0 0 0) _ _ .nil))) (hh1 rfl) ?_
  simp only [V.ren, V.renL, outD, outB, rho0, hget_zero, hget_succ, Option.map_some, Option.bind_some, iB, List.map_cons, List.map_nil]
  (with_reducible refine finA hC ?_); clear hC C
  (repeat' (first | ((with_reducible first | refine aops_cons' fun C hC => ?_ | refine aopsD_cons' fun C hC => ?_ | intro C hC); simp only [go_sem]; ((with_reducible first | refine finA hC ?_ | refine finD hC ?_); clear hC C)) | (with_reducible first | refine awp_seq_k fun K hK => ?_ | refine awp_reg_k fun K hK => ?_ | refine awp_dreg_k fun K hK => ?_ | (refine aops_nil ?_; refine hK _ _ ?_; try clear hK K) | (refine aopsD_nil ?_; refine hK _ _ _ ?_ ?_; (focus kernel_rfl); try clear hK K) | (refine thn_normal ?_; refine hK _ _ ?_; try clear hK K) | refine catch_normal ?_ | refine awp_skip_k ?_ | refine awp_ret_k ?_ | refine awp_exit_k ?_ | refine awp_block_k ?_ | (refine thn_exit ?_; try clear hK K) | (refine thn_ret ?_; try clear hK K) | refine catch_ret ?_ | refine catch_exit ?_ | (refine catch_other ?_ ?_; focus decide)) | ((with_reducible first | apply aops_guard' | apply aopsD_guard' | apply awp_cond_g); focus (simp only [go_sem]; exact rfl)) | (with_reducible first | refine gk_tt ?_ | refine gk_ff ?_ | refine ck_t ?_ | refine ck_f ?_) | ((with_reducible first | refine gk_tf ?_ | refine gk_ft ?_ | refine gk_u ?_ | refine gk_u' ?_); first | (intro _ e; (first | rw [put_some] at e | rw [put_none] at e); subst e) | (intro _ _ e e'; (first | rw [put_some] at e | rw [put_none] at e); subst e; subst e'))))
  refine ⟨[.pv (bb false)], rfl, fun b => [0, 1, 2].getD b 0, ?_⟩
  simp only [x3, iB, pB, tagN, Option.map_some]
  exact (LeB [0, 1, 2] (by refine ⟨?_, ?_, ?_⟩ <;> simp only [leFr, leFb, leHp, V.ren, V.renL, V.bd, V.bdL, allL, lt, Go.Ab.get, hget, List.map_cons, List.map_nil, List.length_cons, List.length_nil, List.length_append, List.getElem?_cons_zero, List.getElem?_cons_succ, List.getElem?_nil, Option.join_some, Option.join_none, List.getD_cons_zero, List.getD_cons_succ, List.getD_nil, Nat.reduceAdd, Nat.reduceLT, Nat.reduceEqDiff, Nat.zero_add, reduceIte, if_true, if_false, and_true, true_and, renL_vcells, allL_vcells, renL_pv, leBlk_some, eq_self, true_or, or_true, reduceCtorEq, false_or, oneW, allL]))
def clX : V := .fn 117 [.ptr 0 0 0, .ptr 1 0 0]
set_option maxHeartbeats 1000000 in
theorem exc2_ok {cs : List ST} {d l : Int} (hd : IntKind.i64.wrap (d + 1) = d + 1) (hl : cs.length ≤ 1048576) (h : ∀ t ∈ cs, ∀ l' : Int, sz t ≤ l' → l' ≤ l → MCall Try.prog 98 [.pv t.enc, .pv (ii (d + 1)), .ptr 0 0 0] [some (iB l')] (.pv (bb false)) [some (iB (l' - sz t))]) (hs : szL cs ≤ l) :
    MCall Try.prog 126 [.pv (.list 3 (encST cs)), clX] (x3 d l) (.pv (ii (-1))) (x3 d (l - szL cs)) := by
  refine MCall.intro fn126 (by simp) (by simp [x3]) (by simp [x3]) (LV_3 d l) (HpOk_3 d l) (HpOk_3 d _) ⟨trivial, ⟨LV_3 d l 0 (by omega), LV_3 d l 1 (by omega), trivial⟩, trivial⟩ trivial fun m => ?_
  unfold ac126
  simp only [argFrV, x3, tagN, List.length_cons, List.length_nil, Option.map_some, Nat.zero_add, iB, pB, Nat.reduceLT, if_true, clX]
  (repeat' (first | ((with_reducible first | refine aops_cons' fun C hC => ?_ | refine aopsD_cons' fun C hC => ?_ | intro C hC); simp only [go_sem, encST_len]; ((with_reducible first | refine finA hC ?_ | refine finD hC ?_); clear hC C)) | (with_reducible first | refine awp_seq_k fun K hK => ?_ | refine awp_reg_k fun K hK => ?_ | refine awp_dreg_k fun K hK => ?_ | (refine aops_nil ?_; refine hK _ _ ?_; try clear hK K) | (refine aopsD_nil ?_; refine hK _ _ _ ?_ ?_; (focus kernel_rfl); try clear hK K) | (refine thn_normal ?_; refine hK _ _ ?_; try clear hK K) | refine catch_normal ?_ | refine awp_skip_k ?_ | refine awp_ret_k ?_ | refine awp_exit_k ?_ | refine awp_block_k ?_ | (refine thn_exit ?_; try clear hK K) | (refine thn_ret ?_; try clear hK K) | refine catch_ret ?_ | refine catch_exit ?_ | (refine catch_other ?_ ?_; focus decide)) | ((with_reducible first | apply aops_guard' | apply aopsD_guard' | apply awp_cond_g); focus (simp only [go_sem, encST_len]; exact rfl)) | (with_reducible first | refine gk_tt ?_ | refine gk_ff ?_ | refine ck_t ?_ | refine ck_f ?_) | ((with_reducible first | refine gk_tf ?_ | refine gk_ft ?_ | refine gk_u ?_ | refine gk_u' ?_); first | (intro _ e; (first | rw [put_some] at e | rw [put_none] at e); subst e) | (intro _ _ e e'; (first | rw [put_some] at e | rw [put_none] at e); subst e; subst e'))))
  have rows : ∀ (rest pre : List ST), pre ++ rest = cs → loopN (awp Try.prog ac126_l0) (catch_ 0 (thn K (retM [RV.tmp 4] (.pv (ii (-1))) 3 (x3 d (l - szL cs)) m))) (rest.length + 1)
     [(8, .pv (ii pre.length)), (7, .pv (ii cs.length)), (1, .fn 117 [.ptr 0 0 0, .ptr 1 0 0]), (0, .pv (.list 3 (encST cs)))] [some ⟨false, 3, 1, [[.pv (ii d)]], some (m 0)⟩, some ⟨false, 126, 1, [[.ptr 2 0 0]], some (m 1)⟩, some ⟨false, 3, 1, [[.pv (ii (l - szL pre))]], some (m 2)⟩] := by
    intro rest
    induction rest with
    | nil =>
      intro pre hpre
      have hpre : pre = cs := by simpa using hpre
      subst hpre
      refine loopN_k fun K1 hK1 => ?_
      unfold ac126_l0
      (repeat' (first | ((with_reducible first | refine aops_cons' fun C hC => ?_ | refine aopsD_cons' fun C hC => ?_ | intro C hC); simp only [go_sem, lt_end]; ((with_reducible first | refine finA hC ?_ | refine finD hC ?_); clear hC C)) | (with_reducible first | refine awp_seq_k fun K hK => ?_ | refine awp_reg_k fun K hK => ?_ | refine awp_dreg_k fun K hK => ?_ | (refine aops_nil ?_; refine hK _ _ ?_; try clear hK K) | (refine aopsD_nil ?_; refine hK _ _ _ ?_ ?_; (focus kernel_rfl); try clear hK K) | (refine thn_normal ?_; refine hK _ _ ?_; try clear hK K) | refine catch_normal ?_ | refine awp_skip_k ?_ | refine awp_ret_k ?_ | refine awp_exit_k ?_ | refine awp_block_k ?_ | (refine thn_exit ?_; try clear hK K) | (refine thn_ret ?_; try clear hK K) | refine catch_ret ?_ | refine catch_exit ?_ | (refine catch_other ?_ ?_; focus decide)) | ((with_reducible first | apply aops_guard' | apply aopsD_guard' | apply awp_cond_g); focus (simp only [go_sem, lt_end]; exact rfl)) | (with_reducible first | refine gk_tt ?_ | refine gk_ff ?_ | refine ck_t ?_ | refine ck_f ?_) | ((with_reducible first | refine gk_tf ?_ | refine gk_ft ?_ | refine gk_u ?_ | refine gk_u' ?_); first | (intro _ e; (first | rw [put_some] at e | rw [put_none] at e); subst e) | (intro _ _ e e'; (first | rw [put_some] at e | rw [put_none] at e); subst e; subst e'))))
      refine ⟨[.pv (ii (-1))], rfl, fun b => [0, 1, 2].getD b 0, ?_⟩
      simp only [x3, iB, pB, tagN, Option.map_some, Nat.zero_add, Nat.reduceLT, if_true]
      exact (LeB [0, 1, 2] (by refine ⟨?_, ?_, ?_⟩ <;> simp only [leFr, leFb, leHp, V.ren, V.renL, V.bd, V.bdL, allL, lt, Go.Ab.get, hget, List.map_cons, List.map_nil, List.length_cons, List.length_nil, List.length_append, List.getElem?_cons_zero, List.getElem?_cons_succ, List.getElem?_nil, Option.join_some, Option.join_none, List.getD_cons_zero, List.getD_cons_succ, List.getD_nil, Nat.reduceAdd, Nat.reduceLT, Nat.reduceEqDiff, Nat.zero_add, reduceIte, if_true, if_false, and_true, true_and, renL_vcells, allL_vcells, renL_pv, leBlk_some, eq_self, true_or, or_true, reduceCtorEq, false_or, oneW, allL]))
    | cons t rest ih =>
      intro pre hpre
      have hlt : decide ((pre.length : Int) < (cs.length : Int)) = true := by rw [← hpre]; exact lt_app _ _ _
      have hat : (encST cs)[pre.length]? = some t.enc := by rw [← hpre]; exact encST_at _ _ _
      have hb : pre.length + 1 ≤ big := by have := congrArg List.length hpre; simp at this; unfold big; omega
      have hzz : szL pre + sz t ≤ szL cs := by rw [← hpre, szL_app]; simp only [szL]; omega
      have hc := exc1_ok hd (h t (by rw [← hpre]; simp) (l - szL pre) (by omega) (by omega))
      have hw := wrapS (n := pre.length) (by unfold big at hb; omega)
      have hsz : l - (szL pre : Int) - (sz t : Int) = l - (szL (pre ++ [t]) : Int) := by rw [szL_app]; simp only [szL]; omega
      rw [hsz] at hc
      refine loopN_k fun K1 hK1 => ?_
      unfold ac126_l0
      (repeat' (first | ((with_reducible first | refine aops_cons' fun C hC => ?_ | refine aopsD_cons' fun C hC => ?_ | intro C hC); simp only [go_sem, hlt, hat, pcells_st]; ((with_reducible first | refine finA hC ?_ | refine finD hC ?_); clear hC C)) | (with_reducible first | refine awp_seq_k fun K hK => ?_ | refine awp_reg_k fun K hK => ?_ | refine awp_dreg_k fun K hK => ?_ | (refine aops_nil ?_; refine hK _ _ ?_; try clear hK K) | (refine aopsD_nil ?_; refine hK _ _ _ ?_ ?_; (focus kernel_rfl); try clear hK K) | (refine thn_normal ?_; refine hK _ _ ?_; try clear hK K) | refine catch_normal ?_ | refine awp_skip_k ?_ | refine awp_ret_k ?_ | refine awp_exit_k ?_ | refine awp_block_k ?_ | (refine thn_exit ?_; try clear hK K) | (refine thn_ret ?_; try clear hK K) | refine catch_ret ?_ | refine catch_exit ?_ | (refine catch_other ?_ ?_; focus decide)) | ((with_reducible first | apply aops_guard' | apply aopsD_guard' | apply awp_cond_g); focus (simp only [go_sem, hlt, hat, pcells_st]; exact rfl)) | (with_reducible first | refine gk_tt ?_ | refine gk_ff ?_ | refine ck_t ?_ | refine ck_f ?_) | ((with_reducible first | refine gk_tf ?_ | refine gk_ft ?_ | refine gk_u ?_ | refine gk_u' ?_); first | (intro _ e; (first | rw [put_some] at e | rw [put_none] at e); subst e) | (intro _ _ e e'; (first | rw [put_some] at e | rw [put_none] at e); subst e; subst e'))))
      refine aops_call fun C hC => ?_
      simp only [go_sem]
      refine ACall.heapc (FnIs.fn 117 [.ptr 0 0 0, .ptr 1 0 0]) [0, 1, 2] hc rfl (by decide) (by decide) (VM.pv (.pv (.agg [ii t.kd, ss t.tx, .list 3 (encST t.ch)])) _ _ _ (by rw [enc_st]; exact .pv _) (VM.eq (.ptr 0 0 0) _ _ (VM.eq (.ptr 1 0 0) _ _ .nil))) (hh3 rfl rfl rfl) ?_
      simp only [V.ren, V.renL, x3, outD, outB, rho0, r3a, r3b, r3c, hget_zero, hget_succ, Option.map_some, Option.bind_some, iB, pB, List.map_cons, List.map_nil]
      (with_reducible refine finA hC ?_); clear hC C
      (repeat' (first | ((with_reducible first | refine aops_cons' fun C hC => ?_ | refine aopsD_cons' fun C hC => ?_ | intro C hC); simp only [go_sem]; ((with_reducible first | refine finA hC ?_ | refine finD hC ?_); clear hC C)) | (with_reducible first | refine awp_seq_k fun K hK => ?_ | refine awp_reg_k fun K hK => ?_ | refine awp_dreg_k fun K hK => ?_ | (refine aops_nil ?_; refine hK _ _ ?_; try clear hK K) | (refine aopsD_nil ?_; refine hK _ _ _ ?_ ?_; (focus kernel_rfl); try clear hK K) | (refine thn_normal ?_; refine hK _ _ ?_; try clear hK K) | refine catch_normal ?_ | refine awp_skip_k ?_ | refine awp_ret_k ?_ | refine awp_exit_k ?_ | refine awp_block_k ?_ | (refine thn_exit ?_; try clear hK K) | (refine thn_ret ?_; try clear hK K) | refine catch_ret ?_ | refine catch_exit ?_ | (refine catch_other ?_ ?_; focus decide)) | ((with_reducible first | apply aops_guard' | apply aopsD_guard' | apply awp_cond_g); focus (simp only [go_sem]; exact rfl)) | (with_reducible first | refine gk_tt ?_ | refine gk_ff ?_ | refine ck_t ?_ | refine ck_f ?_) | ((with_reducible first | refine gk_tf ?_ | refine gk_ft ?_ | refine gk_u ?_ | refine gk_u' ?_); first | (intro _ e; (first | rw [put_some] at e | rw [put_none] at e); subst e) | (intro _ _ e e'; (first | rw [put_some] at e | rw [put_none] at e); subst e; subst e'))))
      refine thn_normal ?_
      refine hK1 _ _ _ _ _ (LeB [0, 1, 2] (by refine ⟨?_, ?_, ?_⟩ <;> simp only [leFr, leFb, leHp, V.ren, V.renL, V.bd, V.bdL, allL, lt, Go.Ab.get, hget, List.map_cons, List.map_nil, List.length_cons, List.length_nil, List.length_append, List.getElem?_cons_zero, List.getElem?_cons_succ, List.getElem?_nil, Option.join_some, Option.join_none, List.getD_cons_zero, List.getD_cons_succ, List.getD_nil, Nat.reduceAdd, Nat.reduceLT, Nat.reduceEqDiff, Nat.zero_add, reduceIte, if_true, if_false, and_true, true_and, renL_vcells, allL_vcells, renL_pv, leBlk_some, eq_self, true_or, or_true, reduceCtorEq, false_or, hw, List.length_append, allL])) (ih (pre ++ [t]) (by simp [hpre]))
  have h0 : l - (szL ([] : List ST) : Int) = l := by simp [szL]
  have := rows cs [] rfl
  rw [h0] at this
  refine awp_loop_k _ (LeB [0, 1, 2] (by refine ⟨?_, ?_, ?_⟩ <;> simp only [leFr, leFb, leHp, V.ren, V.renL, V.bd, V.bdL, allL, lt, Go.Ab.get, hget, List.map_cons, List.map_nil, List.length_cons, List.length_nil, List.length_append, List.getElem?_cons_zero, List.getElem?_cons_succ, List.getElem?_nil, Option.join_some, Option.join_none, List.getD_cons_zero, List.getD_cons_succ, List.getD_nil, Nat.reduceAdd, Nat.reduceLT, Nat.reduceEqDiff, Nat.zero_add, reduceIte, if_true, if_false, and_true, true_and, renL_vcells, allL_vcells, renL_pv, leBlk_some, eq_self, true_or, or_true, reduceCtorEq, false_or, c0, allL, List.length_nil])) this
set_option maxHeartbeats 1000000 in
theorem exc3_ok {cs : List ST} {d l : Int} (h : MCall Try.prog 126 [.pv (.list 3 (encST cs)), clX] (x3 d l) (.pv (ii (-1))) (x3 d (l - szL cs))) :
    MCall Try.prog 116 [.pv (.list 3 (encST cs)), clX] (x3 d l) (.pv (bb false)) (x3 d (l - szL cs)) := by
  refine MCall.intro fn116 (by simp) (by simp [x3]) (by simp [x3]) (LV_3 d l) (HpOk_3 d l) (HpOk_3 d _) ⟨trivial, ⟨LV_3 d l 0 (by omega), LV_3 d l 1 (by omega), trivial⟩, trivial⟩ trivial fun m => ?_
  unfold ac116
  simp only [argFrV, x3, tagN, List.length_cons, List.length_nil, Option.map_some, Nat.zero_add, iB, pB, Nat.reduceLT, if_true, clX]
  (repeat' (first | ((with_reducible first | refine aops_cons' fun C hC => ?_ | refine aopsD_cons' fun C hC => ?_ | intro C hC); simp only [go_sem]; ((with_reducible first | refine finA hC ?_ | refine finD hC ?_); clear hC C)) | (with_reducible first | refine awp_seq_k fun K hK => ?_ | refine awp_reg_k fun K hK => ?_ | refine awp_dreg_k fun K hK => ?_ | (refine aops_nil ?_; refine hK _ _ ?_; try clear hK K) | (refine aopsD_nil ?_; refine hK _ _ _ ?_ ?_; (focus kernel_rfl); try clear hK K) | (refine thn_normal ?_; refine hK _ _ ?_; try clear hK K) | refine catch_normal ?_ | refine awp_skip_k ?_ | refine awp_ret_k ?_ | refine awp_exit_k ?_ | refine awp_block_k ?_ | (refine thn_exit ?_; try clear hK K) | (refine thn_ret ?_; try clear hK K) | refine catch_ret ?_ | refine catch_exit ?_ | (refine catch_other ?_ ?_; focus decide)) | ((with_reducible first | apply aops_guard' | apply aopsD_guard' | apply awp_cond_g); focus (simp only [go_sem]; exact rfl)) | (with_reducible first | refine gk_tt ?_ | refine gk_ff ?_ | refine ck_t ?_ | refine ck_f ?_) | ((with_reducible first | refine gk_tf ?_ | refine gk_ft ?_ | refine gk_u ?_ | refine gk_u' ?_); first | (intro _ e; (first | rw [put_some] at e | rw [put_none] at e); subst e) | (intro _ _ e e'; (first | rw [put_some] at e | rw [put_none] at e); subst e; subst e'))))
  refine aops_call fun C hC => ?_
  simp only [go_sem]
  refine ACall.heap [0, 1, 2] h rfl (by decide) (by decide) (VM.eq (.pv (.list 3 (encST cs))) _ _ (VM.eq clX _ _ .nil)) (hh3 rfl rfl rfl) ?_
  simp only [V.ren, V.renL, x3, outD, outB, rho0, r3a, r3b, r3c, hget_zero, hget_succ, Option.map_some, Option.bind_some, iB, pB, List.map_cons, List.map_nil]
  (with_reducible refine finA hC ?_); clear hC C
  (repeat' (first | ((with_reducible first | refine aops_cons' fun C hC => ?_ | refine aopsD_cons' fun C hC => ?_ | intro C hC); simp only [go_sem]; ((with_reducible first | refine finA hC ?_ | refine finD hC ?_); clear hC C)) | (with_reducible first | refine awp_seq_k fun K hK => ?_ | refine awp_reg_k fun K hK => ?_ | refine awp_dreg_k fun K hK => ?_ | (refine aops_nil ?_; refine hK _ _ ?_; try clear hK K) | (refine aopsD_nil ?_; refine hK _ _ _ ?_ ?_; (focus kernel_rfl); try clear hK K) | (refine thn_normal ?_; refine hK _ _ ?_; try clear hK K) | refine catch_normal ?_ | refine awp_skip_k ?_ | refine awp_ret_k ?_ | refine awp_exit_k ?_ | refine awp_block_k ?_ | (refine thn_exit ?_; try clear hK K) | (refine thn_ret ?_; try clear hK K) | refine catch_ret ?_ | refine catch_exit ?_ | (refine catch_other ?_ ?_; focus decide)) | ((with_reducible first | apply aops_guard' | apply aopsD_guard' | apply awp_cond_g); focus (simp only [go_sem]; exact rfl)) | (with_reducible first | refine gk_tt ?_ | refine gk_ff ?_ | refine ck_t ?_ | refine ck_f ?_) | ((with_reducible first | refine gk_tf ?_ | refine gk_ft ?_ | refine gk_u ?_ | refine gk_u' ?_); first | (intro _ e; (first | rw [put_some] at e | rw [put_none] at e); subst e) | (intro _ _ e e'; (first | rw [put_some] at e | rw [put_none] at e); subst e; subst e'))))
  refine ⟨[.pv (bb false)], rfl, fun b => [0, 1, 2].getD b 0, ?_⟩
  simp only [x3, iB, pB, tagN, Option.map_some]
  exact (LeB [0, 1, 2] (by refine ⟨?_, ?_, ?_⟩ <;> simp only [leFr, leFb, leHp, V.ren, V.renL, V.bd, V.bdL, allL, lt, Go.Ab.get, hget, List.map_cons, List.map_nil, List.length_cons, List.length_nil, List.length_append, List.getElem?_cons_zero, List.getElem?_cons_succ, List.getElem?_nil, Option.join_some, Option.join_none, List.getD_cons_zero, List.getD_cons_succ, List.getD_nil, Nat.reduceAdd, Nat.reduceLT, Nat.reduceEqDiff, Nat.zero_add, reduceIte, if_true, if_false, and_true, true_and, renL_vcells, allL_vcells, renL_pv, leBlk_some, eq_self, true_or, or_true, reduceCtorEq, false_or, oneW, allL]))
set_option maxHeartbeats 1000000 in
theorem exc_ok : ∀ (t : ST) (d l : Int), 0 ≤ d → d + dp t ≤ 201 → sz t ≤ l → l ≤ 1048576 → MCall Try.prog 98 [.pv t.enc, .pv (ii d), .ptr 0 0 0] [some (iB l)] (.pv (bb false)) [some (iB (l - sz t))]
  | .mk k x cs, d, l, hd0, hd, hl, hl2 => by
    have hcl : cs.length ≤ 1048576 := by have := szL_len cs; simp only [sz] at hl; omega
    have hrec : ∀ t ∈ cs, ∀ l' : Int, sz t ≤ l' → l' ≤ l - 1 → MCall Try.prog 98 [.pv t.enc, .pv (ii (d + 1)), .ptr 0 0 0] [some (iB l')] (.pv (bb false)) [some (iB (l' - sz t))] := fun t ht l' h1 h2 => by
      have hm := dpL_mem cs 0 t ht
      simp only [dp] at hd
      exact exc_ok t (d + 1) l' (by omega) (by omega) h1 (by omega)
    have hdp : d ≤ 200 := by simp only [dp] at hd; omega
    have hsl : szL cs ≤ l - 1 := by simp only [sz] at hl; omega
    have hc := exc3_ok (exc2_ok (d := d) (l := l - 1) (IntWalk.i64_in _ (by omega)) hcl hrec hsl)
    have he : l - 1 - (szL cs : Int) = l - (sz (.mk k x cs) : Int) := by simp only [sz]; omega
    rw [he] at hc
    have hw0 : IntKind.i64.wrap (l - 1) = l - 1 := IntWalk.i64_in _ (by simp only [sz] at hl; omega)
    have h1 : decide (l - 1 < 0) = false := decide_eq_false (by simp only [sz] at hl; omega)
    have h2 : decide (d > 200) = false := decide_eq_false (by omega)
    generalize l - (sz (.mk k x cs) : Int) = r at hc
    refine MCall.intro fn98 (by simp) (by simp) (by simp) (LV_1 l) (HpOk_1 l) (HpOk_1 _) ⟨trivial, trivial, LV_1 l 0 (by omega), trivial⟩ trivial fun m => ?_
    unfold ac98
    simp only [argFrV, tagN, List.length_cons, List.length_nil, Option.map_some, Nat.zero_add, iB, Nat.lt_one_iff, if_true]
    (repeat' (first | ((with_reducible first | refine aops_cons' fun C hC => ?_ | refine aopsD_cons' fun C hC => ?_ | intro C hC); simp only [go_sem, cells_st, ST.tc, kd_st, tx_st, ch_st, hw0, h1, h2]; ((with_reducible first | refine finA hC ?_ | refine finD hC ?_); clear hC C)) | (with_reducible first | refine awp_seq_k fun K hK => ?_ | refine awp_reg_k fun K hK => ?_ | refine awp_dreg_k fun K hK => ?_ | (refine aops_nil ?_; refine hK _ _ ?_; try clear hK K) | (refine aopsD_nil ?_; refine hK _ _ _ ?_ ?_; (focus kernel_rfl); try clear hK K) | (refine thn_normal ?_; refine hK _ _ ?_; try clear hK K) | refine catch_normal ?_ | refine awp_skip_k ?_ | refine awp_ret_k ?_ | refine awp_exit_k ?_ | refine awp_block_k ?_ | (refine thn_exit ?_; try clear hK K) | (refine thn_ret ?_; try clear hK K) | refine catch_ret ?_ | refine catch_exit ?_ | (refine catch_other ?_ ?_; focus decide)) | ((with_reducible first | apply aops_guard' | apply aopsD_guard' | apply awp_cond_g); focus (simp only [go_sem, cells_st, ST.tc, kd_st, tx_st, ch_st, hw0, h1, h2]; exact rfl)) | (with_reducible first | refine gk_tt ?_ | refine gk_ff ?_ | refine ck_t ?_ | refine ck_f ?_) | ((with_reducible first | refine gk_tf ?_ | refine gk_ft ?_ | refine gk_u ?_ | refine gk_u' ?_); first | (intro _ e; (first | rw [put_some] at e | rw [put_none] at e); subst e) | (intro _ _ e e'; (first | rw [put_some] at e | rw [put_none] at e); subst e; subst e'))))
    refine aops_call fun C hC => ?_
    simp only [go_sem]
    refine ACall.heap [2, 3, 0] hc rfl (by decide) (by decide) (VM.eq (.pv (.list 3 (encST cs))) _ _ (VM.eq clX _ _ .nil)) (hh3 rfl rfl rfl) ?_
    simp only [V.ren, V.renL, x3, outD, outB, rho0, r3a, r3b, r3c, hget_zero, hget_succ, Option.map_some, Option.bind_some, iB, pB, List.map_cons, List.map_nil]
    (with_reducible refine finA hC ?_); clear hC C
    (repeat' (first | ((with_reducible first | refine aops_cons' fun C hC => ?_ | refine aopsD_cons' fun C hC => ?_ | intro C hC); simp only [go_sem]; ((with_reducible first | refine finA hC ?_ | refine finD hC ?_); clear hC C)) | (with_reducible first | refine awp_seq_k fun K hK => ?_ | refine awp_reg_k fun K hK => ?_ | refine awp_dreg_k fun K hK => ?_ | (refine aops_nil ?_; refine hK _ _ ?_; try clear hK K) | (refine aopsD_nil ?_; refine hK _ _ _ ?_ ?_; (focus kernel_rfl); try clear hK K) | (refine thn_normal ?_; refine hK _ _ ?_; try clear hK K) | refine catch_normal ?_ | refine awp_skip_k ?_ | refine awp_ret_k ?_ | refine awp_exit_k ?_ | refine awp_block_k ?_ | (refine thn_exit ?_; try clear hK K) | (refine thn_ret ?_; try clear hK K) | refine catch_ret ?_ | refine catch_exit ?_ | (refine catch_other ?_ ?_; focus decide)) | ((with_reducible first | apply aops_guard' | apply aopsD_guard' | apply awp_cond_g); focus (simp only [go_sem]; exact rfl)) | (with_reducible first | refine gk_tt ?_ | refine gk_ff ?_ | refine ck_t ?_ | refine ck_f ?_) | ((with_reducible first | refine gk_tf ?_ | refine gk_ft ?_ | refine gk_u ?_ | refine gk_u' ?_); first | (intro _ e; (first | rw [put_some] at e | rw [put_none] at e); subst e) | (intro _ _ e e'; (first | rw [put_some] at e | rw [put_none] at e); subst e; subst e'))))
    refine ⟨[.pv (bb false)], rfl, fun b => [0].getD b 0, ?_⟩
    simp only [iB, tagN, Option.map_some]
    exact (LeB [0] (by refine ⟨?_, ?_, ?_⟩ <;> simp only [leFr, leFb, leHp, V.ren, V.renL, V.bd, V.bdL, allL, lt, Go.Ab.get, hget, List.map_cons, List.map_nil, List.length_cons, List.length_nil, List.length_append, List.getElem?_cons_zero, List.getElem?_cons_succ, List.getElem?_nil, Option.join_some, Option.join_none, List.getD_cons_zero, List.getD_cons_succ, List.getD_nil, Nat.reduceAdd, Nat.reduceLT, Nat.reduceEqDiff, Nat.zero_add, reduceIte, if_true, if_false, and_true, true_and, renL_vcells, allL_vcells, renL_pv, leBlk_some, eq_self, true_or, or_true, reduceCtorEq, false_or, oneW, allL]))
termination_by t => SizeOf.sizeOf t
decreasing_by
  have := List.sizeOf_lt_of_mem ht
  simp only [ST.mk.sizeOf_spec]; omega
end Go.Proofs.Ytgphapkpoamcgaa
