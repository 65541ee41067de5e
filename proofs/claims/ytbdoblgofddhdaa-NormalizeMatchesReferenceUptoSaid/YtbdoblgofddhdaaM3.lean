/- M3: joined from Y3. -/
import Derived.Test.YtbdoblgofddhdaaFnU
import Derived.Test.YtbdoblgofddhdaaM2
/- Associated types: one projection, by contract. -/
set_option maxRecDepth 10000
set_option linter.unusedSimpArgs false
set_option linter.unusedVariables false
namespace Go.Proofs.Ytbdoblgofddhdaa
open Go Go.Ab
theorem RL_okv {G : Gh} : ∀ {vs : List V} {us : List Value}, RL G vs us → ∀ p, V.pv p ∈ vs → p.ok
  | [], us, _, p, h => by cases h
  | v :: vs, us, r, p, h => by
    simp only [RL] at r
    obtain ⟨u, us', rfl, r1, r2⟩ := r
    rcases List.mem_cons.1 h with rfl | h
    · simp only [R] at r1; exact RP_ok _ _ r1
    · exact RL_okv r2 p h
theorem MCall.intro' {P : Program} {f : FuncId} {N : Nat} {ac : AC} {rs : List RV} (hf : Fun P f N ac rs) {vs : List V} {v : V} {H0 H1 : Hp} (hN : vs.length ≤ N) (h1 : H0.length ≤ H1.length) (h2 : H1.length ≤ H0.length + 1) (h3 : ∀ b, b < H0.length → LV H0 b) (h4 : HpOk H0) (h5 : HpOk H1)
    (h6 : V.bdL (LV H0) vs) (h7 : v.bd (LV H1)) (h : (∀ p, V.pv p ∈ vs → p.ok) → ∀ m, awp P ac (retM rs v H0.length H1 m) (argFrV 0 vs) (tagN m H0.length 0 H0)) : MCall P f vs H0 v H1 := by
  by_cases hok : ∀ p, V.pv p ∈ vs → p.ok
  · exact MCall.intro hf hN h1 h2 h3 h4 h5 h6 h7 (h hok)
  · obtain ⟨fn, c, e1, e2, e3, _⟩ := hf.ex
    exact ⟨⟨fn, e1, by rw [e2]; rfl, e3⟩, h1, h2, h3, h4, h5, h6, h7, fun G w us rel hus => absurd (RL_okv hus) hok⟩
def nbk (E : Env) (b : Bool) : Blk := ⟨false, 119, 6, [[.pv (.list 6 (encSy E.sy)), .pv E.r1, .pv E.r2, .pv (.list 7 (encDc E.ds)), .pv (.list 4 (encTb E.az)), .pv (bb b)]], none⟩
theorem HpOk_n (E : Env) (b : Bool) : HpOk [some (nbk E b)] := by
  refine ⟨fun c k e => ?_, fun c k e => ?_⟩ <;> (cases c with
    | zero => simp only [hget, List.getElem?_cons_zero, Option.join_some, Option.some.injEq] at e; subst e; first | rfl | (intro cs hcs; simp only [nbk, List.mem_singleton] at hcs; subst hcs; simp [V.bdL, V.bd])
    | succ c => simp [hget] at e)
theorem LV_n (E : Env) (b : Bool) : ∀ c, c < 1 → LV [some (nbk E b)] c := fun c hc => by
  obtain rfl : c = 0 := by omega
  exact ⟨_, rfl⟩
theorem hhN {h : HF} {a nb : Nat} {E : Env} {b : Bool} {tg : Option (Nat × Nat × Nat)} (h0 : h a = some ⟨false, 119, 6, [[.pv (.list 6 (encSy E.sy)), .pv E.r1, .pv E.r2, .pv (.list 7 (encDc E.ds)), .pv (.list 4 (encTb E.az)), .pv (bb b)]], tg⟩) :
    ∀ i k, hget [some (nbk E b)] i = some k → ∃ k', h (rho [a] nb i) = some k' ∧ BlkWk (rho [a] nb) k' k := fun i k e => by
  cases i with
  | zero =>
    simp only [hget, List.getElem?_cons_zero, Option.join_some, Option.some.injEq] at e
    subst e
    exact ⟨_, h0, rfl, rfl, rfl, WkX.refl _⟩
  | succ i => simp [hget] at e
theorem bd_tcV {S : Nat → Prop} (t : Ty) : (V.agg (Ty.tc t)).bd S := by simp [Ty.tc, V.bd, V.bdL]
theorem sol_im {ds : List Dc} {az : List Tb} {n : Nat} {t : Ty} {tr : Int} {p : Prf} (h : sol ds az n t tr = some p) (h0 : ¬ p.im < 0) : ∃ (i : Nat) (d : Dc), p.im = (i : Int) ∧ ds[i]? = some d := by
  rcases sol_cases h with ⟨_, _, rfl⟩ | ⟨m, i, xs, d, ps, rfl, _, h1, _, _, _, _, rfl⟩
  · simp [Prf.im] at h0
  · exact ⟨i, d, rfl, h1⟩
theorem mem_at {E : Env} {p i : Int} (h : ¬ memI E p i < 0) : ∃ m : Nat, memI E p i = (m : Int) ∧ m < E.sy.length := by
  unfold memI at h ⊢
  rcases idxF_spec (isM p (nmO E i)) E.sy 0 with ⟨e, _⟩ | ⟨pre, x, post, hps, _, e, _⟩
  · rw [e] at h; simp at h
  · rw [e]
    refine ⟨pre.length, by simp, ?_⟩
    have := congrArg List.length hps
    simp at this; omega
theorem aops_zero {P : Program} {d : Option Nat} {places : List (Nat × Nat)} {os : List AOp} {fr : Fr} {H : Hp} {K : Fr → Hp → Prop} (h : ∀ fr', put d (.pv zT.enc) fr = fr' → aops P os fr' H K) :
    aops P (⟨d, .build [(.int .i64 0), (.int .i64 0), (.slice none 0 0)] places [], none⟩ :: os) fr H K := by
  refine aops_frz rfl [] zT.enc fun C hC => ?_
  simp only [go_sem]
  refine hC _ _ _ _ _ ?_ rfl rfl (h _ rfl)
  exact .agg _ _ (.cons _ _ _ _ (.pv _) (.cons _ _ _ _ (.pv _) (.cons _ _ _ _ Vw_nil .nil)))
set_option maxHeartbeats 8000000 in
theorem pm_ok (E : Env) (hlen : E.ds.length = E.sy.length) (n : Nat) (hn : n ≤ 1000)
    (hrec : ∀ k, n = k + 1 → ∀ (t : Ty) (b : Bool), MCall Try.prog 89 [.ptr 0 0 0, .pv t.enc, .pv (ii k)] [some (nbk E b)] (.agg (Ty.tc (nrmT (prj E k) t b).1)) [some (nbk E (nrmT (prj E k) t b).2)]) (t : Ty) (b : Bool) :
    MCall Try.prog 150 [.ptr 0 0 0, .pv t.enc, .pv (ii n)] [some (nbk E b)] (.agg (Ty.tc (prj E n t b).1)) [some (nbk E (prj E n t b).2)] := by
  refine MCall.intro fn150 (by simp) (by simp) (by simp) (LV_n E b) (HpOk_n E b) (HpOk_n E _) ⟨⟨_, rfl⟩, trivial, trivial, trivial⟩ (bd_tcV _) fun m => ?_
  have htr := trt_ok E b t.id
  unfold nbc at htr
  unfold ac150
  simp only [argFrV, tagN, List.length_cons, List.length_nil, Option.map_some, Nat.zero_add, nbk, Nat.lt_one_iff, if_true]
  generalize hR : prj E n t b = R
  unfold prj at hR
  cases h1 : decide (trt E t.id < 0) with
  | true =>
    rw [h1, if_pos rfl] at hR
    subst hR
    (repeat' (first | ((with_reducible refine aops_zero fun _ e => ?_); (first | rw [qqY] at e | rw [qqZ] at e); subst e) | ((first | (with_reducible refine qqV fun C hC => ?_) | (with_reducible refine qqW fun C hC => ?_) | ((with_reducible intro C hC); (with_reducible refine qqX ?_))); (first | (simp only [go_sem, cells_enc, Ty.tc, h1]; (first | ((with_reducible apply ACall.pure0 [0] (htr)); (focus (exact vwA)))))); (simp only [go_sem, cells_enc, Ty.tc, h1]); ((with_reducible first | refine finA hC ?_ | refine finD hC ?_); clear hC C)) | ((with_reducible first | refine qqT fun C hC => ?_ | refine qqU fun C hC => ?_ | intro C hC); simp only [go_sem, cells_enc, Ty.tc, h1]; ((with_reducible first | refine finA hC ?_ | refine finD hC ?_); clear hC C)) | (with_reducible first | refine qqA fun K hK => ?_ | refine qqB fun K hK => ?_ | refine qqC fun K hK => ?_ | (refine qqD ?_; refine hK _ _ ?_; try clear hK K) | (refine qqE ?_; refine hK _ _ _ ?_ ?_; (focus kernel_rfl); try clear hK K) | (refine qqF ?_; refine hK _ _ ?_; try clear hK K) | refine qqG ?_ | refine qqH ?_ | refine qqI ?_ | refine qqJ ?_ | refine qqK ?_ | (refine qqL ?_; try clear hK K) | (refine qqM ?_; try clear hK K) | refine qqN ?_ | refine qqO ?_ | (refine qqP ?_ ?_; focus decide)) | ((with_reducible first | apply qqQ | apply qqR | apply qqS); focus (simp only [go_sem, cells_enc, Ty.tc, h1]; exact rfl)) | (with_reducible first | refine gk_tt ?_ | refine gk_ff ?_ | refine ck_t ?_ | refine ck_f ?_) | ((with_reducible first | refine gk_tf ?_ | refine gk_ft ?_ | refine gk_u ?_ | refine gk_u' ?_); first | (intro _ e; (first | rw [qqY] at e | rw [qqZ] at e); subst e) | (intro _ _ e e'; (first | rw [qqY] at e | rw [qqZ] at e); subst e; subst e'))))
    refine ⟨[.agg (Ty.tc zT)], rfl, fun b => [0].getD b 0, ?_⟩
    simp only [tagN, Option.map_some]
    exact (LeB [0] (by refine ⟨?_, ?_, ?_⟩ <;> simp only [leFr, leFb, leHp, V.ren, V.renL, V.bd, V.bdL, allL, lt, Go.Ab.get, hget, List.map_cons, List.map_nil, List.length_cons, List.length_nil, List.length_append, List.getElem?_cons_zero, List.getElem?_cons_succ, List.getElem?_nil, Option.join_some, Option.join_none, List.getD_cons_zero, List.getD_cons_succ, List.getD_nil, Nat.reduceAdd, Nat.reduceLT, Nat.reduceEqDiff, Nat.zero_add, reduceIte, if_true, if_false, and_true, true_and, renL_vcells, allL_vcells, renL_pv, leBlk_some, eq_self, true_or, or_true, reduceCtorEq, false_or, oneW, allL, Ty.tc]))
  | false =>
    rw [h1, if_neg (by simp)] at hR
    obtain ⟨j, u, hj, hu⟩ := trt_spec (of_decide_eq_false h1)
    cases h2 : ((t.args.length : Int) == 1) with
    | false =>
      rw [h2] at hR
      simp only [Bool.not_false, if_true] at hR
      subst hR
      (repeat' (first | ((with_reducible refine aops_zero fun _ e => ?_); (first | rw [qqY] at e | rw [qqZ] at e); subst e) | ((first | (with_reducible refine qqV fun C hC => ?_) | (with_reducible refine qqW fun C hC => ?_) | ((with_reducible intro C hC); (with_reducible refine qqX ?_))); (first | (simp only [go_sem, cells_enc, Ty.tc, h1, encL_len, bne, h2]; (first | ((with_reducible apply ACall.pure0 [0] (htr)); (focus (exact vwA)))))); (simp only [go_sem, cells_enc, Ty.tc, h1, encL_len, bne, h2]); ((with_reducible first | refine finA hC ?_ | refine finD hC ?_); clear hC C)) | ((with_reducible first | refine qqT fun C hC => ?_ | refine qqU fun C hC => ?_ | intro C hC); simp only [go_sem, cells_enc, Ty.tc, h1, encL_len, bne, h2]; ((with_reducible first | refine finA hC ?_ | refine finD hC ?_); clear hC C)) | (with_reducible first | refine qqA fun K hK => ?_ | refine qqB fun K hK => ?_ | refine qqC fun K hK => ?_ | (refine qqD ?_; refine hK _ _ ?_; try clear hK K) | (refine qqE ?_; refine hK _ _ _ ?_ ?_; (focus kernel_rfl); try clear hK K) | (refine qqF ?_; refine hK _ _ ?_; try clear hK K) | refine qqG ?_ | refine qqH ?_ | refine qqI ?_ | refine qqJ ?_ | refine qqK ?_ | (refine qqL ?_; try clear hK K) | (refine qqM ?_; try clear hK K) | refine qqN ?_ | refine qqO ?_ | (refine qqP ?_ ?_; focus decide)) | ((with_reducible first | apply qqQ | apply qqR | apply qqS); focus (simp only [go_sem, cells_enc, Ty.tc, h1, encL_len, bne, h2]; exact rfl)) | (with_reducible first | refine gk_tt ?_ | refine gk_ff ?_ | refine ck_t ?_ | refine ck_f ?_) | ((with_reducible first | refine gk_tf ?_ | refine gk_ft ?_ | refine gk_u ?_ | refine gk_u' ?_); first | (intro _ e; (first | rw [qqY] at e | rw [qqZ] at e); subst e) | (intro _ _ e e'; (first | rw [qqY] at e | rw [qqZ] at e); subst e; subst e'))))
      refine ⟨[.agg (Ty.tc zT)], rfl, fun b => [0].getD b 0, ?_⟩
      simp only [tagN, Option.map_some]
      exact (LeB [0] (by refine ⟨?_, ?_, ?_⟩ <;> simp only [leFr, leFb, leHp, V.ren, V.renL, V.bd, V.bdL, allL, lt, Go.Ab.get, hget, List.map_cons, List.map_nil, List.length_cons, List.length_nil, List.length_append, List.getElem?_cons_zero, List.getElem?_cons_succ, List.getElem?_nil, Option.join_some, Option.join_none, List.getD_cons_zero, List.getD_cons_succ, List.getD_nil, Nat.reduceAdd, Nat.reduceLT, Nat.reduceEqDiff, Nat.zero_add, reduceIte, if_true, if_false, and_true, true_and, renL_vcells, allL_vcells, renL_pv, leBlk_some, eq_self, true_or, or_true, reduceCtorEq, false_or, oneW, allL, Ty.tc]))
    | true =>
      rw [h2] at hR
      simp only [Bool.not_true, Bool.false_eq_true, if_false] at hR
      have hat : (encL t.args)[0]? = some (arg0 t).enc := by
        unfold arg0
        cases ha : t.args with
        | nil => rw [ha] at h2; simp at h2
        | cons a as_ => rfl
      have hs := solve1_ok E.ds E.az (arg0 t) (trt E t.id)
      rw [enc3 (arg0 t)] at hs
      cases hso : sol E.ds E.az 8 (arg0 t) (trt E t.id) with
      | none =>
        rw [hso] at hs hR
        simp only [solV] at hs
        simp only at hR
        subst hR
        (repeat' (first | ((with_reducible refine aops_zero fun _ e => ?_); (first | rw [qqY] at e | rw [qqZ] at e); subst e) | ((first | (with_reducible refine qqV fun C hC => ?_) | (with_reducible refine qqW fun C hC => ?_) | ((with_reducible intro C hC); (with_reducible refine qqX ?_))); (first | (simp only [go_sem, cells_enc, Ty.tc, h1, encL_len, bne, h2, hat, pcells_enc, cells_prf, Prf.tc, scal_prf]; (first | ((with_reducible apply ACall.pure0 [0] (htr)); (focus (exact vwA))) | ((with_reducible apply ACall.pure0 [] (hs)); (focus (exact vwA)))))); (simp only [go_sem, cells_enc, Ty.tc, h1, encL_len, bne, h2, hat, pcells_enc, cells_prf, Prf.tc, scal_prf]); ((with_reducible first | refine finA hC ?_ | refine finD hC ?_); clear hC C)) | ((with_reducible first | refine qqT fun C hC => ?_ | refine qqU fun C hC => ?_ | intro C hC); simp only [go_sem, cells_enc, Ty.tc, h1, encL_len, bne, h2, hat, pcells_enc, cells_prf, Prf.tc, scal_prf]; ((with_reducible first | refine finA hC ?_ | refine finD hC ?_); clear hC C)) | (with_reducible first | refine qqA fun K hK => ?_ | refine qqB fun K hK => ?_ | refine qqC fun K hK => ?_ | (refine qqD ?_; refine hK _ _ ?_; try clear hK K) | (refine qqE ?_; refine hK _ _ _ ?_ ?_; (focus kernel_rfl); try clear hK K) | (refine qqF ?_; refine hK _ _ ?_; try clear hK K) | refine qqG ?_ | refine qqH ?_ | refine qqI ?_ | refine qqJ ?_ | refine qqK ?_ | (refine qqL ?_; try clear hK K) | (refine qqM ?_; try clear hK K) | refine qqN ?_ | refine qqO ?_ | (refine qqP ?_ ?_; focus decide)) | ((with_reducible first | apply qqQ | apply qqR | apply qqS); focus (simp only [go_sem, cells_enc, Ty.tc, h1, encL_len, bne, h2, hat, pcells_enc, cells_prf, Prf.tc, scal_prf]; exact rfl)) | (with_reducible first | refine gk_tt ?_ | refine gk_ff ?_ | refine ck_t ?_ | refine ck_f ?_) | ((with_reducible first | refine gk_tf ?_ | refine gk_ft ?_ | refine gk_u ?_ | refine gk_u' ?_); first | (intro _ e; (first | rw [qqY] at e | rw [qqZ] at e); subst e) | (intro _ _ e e'; (first | rw [qqY] at e | rw [qqZ] at e); subst e; subst e'))))
        refine ⟨[.agg (Ty.tc t)], rfl, fun b => [0].getD b 0, ?_⟩
        simp only [tagN, Option.map_some]
        exact (LeB [0] (by refine ⟨?_, ?_, ?_⟩ <;> simp only [leFr, leFb, leHp, V.ren, V.renL, V.bd, V.bdL, allL, lt, Go.Ab.get, hget, List.map_cons, List.map_nil, List.length_cons, List.length_nil, List.length_append, List.getElem?_cons_zero, List.getElem?_cons_succ, List.getElem?_nil, Option.join_some, Option.join_none, List.getD_cons_zero, List.getD_cons_succ, List.getD_nil, Nat.reduceAdd, Nat.reduceLT, Nat.reduceEqDiff, Nat.zero_add, reduceIte, if_true, if_false, and_true, true_and, renL_vcells, allL_vcells, renL_pv, leBlk_some, eq_self, true_or, or_true, reduceCtorEq, false_or, oneW, allL, Ty.tc]))
      | some p =>
        rw [hso] at hs hR
        simp only [solV] at hs
        simp only at hR
        cases h3 : decide (p.im < 0) with
        | true =>
          rw [h3, if_pos rfl] at hR
          subst hR
          (repeat' (first | ((with_reducible refine aops_zero fun _ e => ?_); (first | rw [qqY] at e | rw [qqZ] at e); subst e) | ((first | (with_reducible refine qqV fun C hC => ?_) | (with_reducible refine qqW fun C hC => ?_) | ((with_reducible intro C hC); (with_reducible refine qqX ?_))); (first | (simp only [go_sem, cells_enc, Ty.tc, h1, encL_len, bne, h2, hat, pcells_enc, cells_prf, Prf.tc, scal_prf, h3]; (first | ((with_reducible apply ACall.pure0 [0] (htr)); (focus (exact vwA))) | ((with_reducible apply ACall.pure0 [] (hs)); (focus (exact vwA)))))); (simp only [go_sem, cells_enc, Ty.tc, h1, encL_len, bne, h2, hat, pcells_enc, cells_prf, Prf.tc, scal_prf, h3]); ((with_reducible first | refine finA hC ?_ | refine finD hC ?_); clear hC C)) | ((with_reducible first | refine qqT fun C hC => ?_ | refine qqU fun C hC => ?_ | intro C hC); simp only [go_sem, cells_enc, Ty.tc, h1, encL_len, bne, h2, hat, pcells_enc, cells_prf, Prf.tc, scal_prf, h3]; ((with_reducible first | refine finA hC ?_ | refine finD hC ?_); clear hC C)) | (with_reducible first | refine qqA fun K hK => ?_ | refine qqB fun K hK => ?_ | refine qqC fun K hK => ?_ | (refine qqD ?_; refine hK _ _ ?_; try clear hK K) | (refine qqE ?_; refine hK _ _ _ ?_ ?_; (focus kernel_rfl); try clear hK K) | (refine qqF ?_; refine hK _ _ ?_; try clear hK K) | refine qqG ?_ | refine qqH ?_ | refine qqI ?_ | refine qqJ ?_ | refine qqK ?_ | (refine qqL ?_; try clear hK K) | (refine qqM ?_; try clear hK K) | refine qqN ?_ | refine qqO ?_ | (refine qqP ?_ ?_; focus decide)) | ((with_reducible first | apply qqQ | apply qqR | apply qqS); focus (simp only [go_sem, cells_enc, Ty.tc, h1, encL_len, bne, h2, hat, pcells_enc, cells_prf, Prf.tc, scal_prf, h3]; exact rfl)) | (with_reducible first | refine gk_tt ?_ | refine gk_ff ?_ | refine ck_t ?_ | refine ck_f ?_) | ((with_reducible first | refine gk_tf ?_ | refine gk_ft ?_ | refine gk_u ?_ | refine gk_u' ?_); first | (intro _ e; (first | rw [qqY] at e | rw [qqZ] at e); subst e) | (intro _ _ e e'; (first | rw [qqY] at e | rw [qqZ] at e); subst e; subst e'))))
          refine ⟨[.agg (Ty.tc t)], rfl, fun b => [0].getD b 0, ?_⟩
          simp only [tagN, Option.map_some]
          exact (LeB [0] (by refine ⟨?_, ?_, ?_⟩ <;> simp only [leFr, leFb, leHp, V.ren, V.renL, V.bd, V.bdL, allL, lt, Go.Ab.get, hget, List.map_cons, List.map_nil, List.length_cons, List.length_nil, List.length_append, List.getElem?_cons_zero, List.getElem?_cons_succ, List.getElem?_nil, Option.join_some, Option.join_none, List.getD_cons_zero, List.getD_cons_succ, List.getD_nil, Nat.reduceAdd, Nat.reduceLT, Nat.reduceEqDiff, Nat.zero_add, reduceIte, if_true, if_false, and_true, true_and, renL_vcells, allL_vcells, renL_pv, leBlk_some, eq_self, true_or, or_true, reduceCtorEq, false_or, oneW, allL, Ty.tc]))
        | false =>
          rw [h3, if_neg (by simp)] at hR
          obtain ⟨i2, d2, hi2, hd2⟩ := sol_im hso (of_decide_eq_false h3)
          have hix := idxSy_ok 184 [.rptr [ii p.t.kd, ii p.t.id, .list 3 (encL p.t.args), ii p.tr, ii p.im, ii p.bd, .list 3 (encL p.az), .list 8 (encPf p.ps)], .rptr [.rptr (nbc E b)], .rptr [ii t.kd, ii t.id, .list 3 (encL t.args)]] (isM p.im u.nm) E.sy (fun s _ => isM_ok E b p t hj hu s)
          have hnm : nmO E t.id = u.nm := by unfold nmO; rw [hj, Int.toNat_natCast, hu]
          have hme : idxF (isM p.im u.nm) E.sy 0 = memI E p.im t.id := by unfold memI; rw [hnm]
          rw [hme] at hix
          unfold nbc at hix
          cases h4 : decide (memI E p.im t.id < 0) with
          | true =>
            rw [h4, if_pos rfl] at hR
            subst hR
            (repeat' (first | ((with_reducible refine aops_zero fun _ e => ?_); (first | rw [qqY] at e | rw [qqZ] at e); subst e) | ((first | (with_reducible refine qqV fun C hC => ?_) | (with_reducible refine qqW fun C hC => ?_) | ((with_reducible intro C hC); (with_reducible refine qqX ?_))); (first | (simp only [go_sem, cells_enc, Ty.tc, h1, encL_len, bne, h2, hat, pcells_enc, cells_prf, Prf.tc, scal_prf, h3, h4]; (first | ((with_reducible apply ACall.pure0 [0] (htr)); (focus (exact vwA))) | ((with_reducible apply ACall.pure0 [] (hs)); (focus (exact vwA))) | ((with_reducible apply ACall.pure0 [0, 1, 2, 21] (hix)); (focus (exact vwA)))))); (simp only [go_sem, cells_enc, Ty.tc, h1, encL_len, bne, h2, hat, pcells_enc, cells_prf, Prf.tc, scal_prf, h3, h4]); ((with_reducible first | refine finA hC ?_ | refine finD hC ?_); clear hC C)) | ((with_reducible first | refine qqT fun C hC => ?_ | refine qqU fun C hC => ?_ | intro C hC); simp only [go_sem, cells_enc, Ty.tc, h1, encL_len, bne, h2, hat, pcells_enc, cells_prf, Prf.tc, scal_prf, h3, h4]; ((with_reducible first | refine finA hC ?_ | refine finD hC ?_); clear hC C)) | (with_reducible first | refine qqA fun K hK => ?_ | refine qqB fun K hK => ?_ | refine qqC fun K hK => ?_ | (refine qqD ?_; refine hK _ _ ?_; try clear hK K) | (refine qqE ?_; refine hK _ _ _ ?_ ?_; (focus kernel_rfl); try clear hK K) | (refine qqF ?_; refine hK _ _ ?_; try clear hK K) | refine qqG ?_ | refine qqH ?_ | refine qqI ?_ | refine qqJ ?_ | refine qqK ?_ | (refine qqL ?_; try clear hK K) | (refine qqM ?_; try clear hK K) | refine qqN ?_ | refine qqO ?_ | (refine qqP ?_ ?_; focus decide)) | ((with_reducible first | apply qqQ | apply qqR | apply qqS); focus (simp only [go_sem, cells_enc, Ty.tc, h1, encL_len, bne, h2, hat, pcells_enc, cells_prf, Prf.tc, scal_prf, h3, h4]; exact rfl)) | (with_reducible first | refine gk_tt ?_ | refine gk_ff ?_ | refine ck_t ?_ | refine ck_f ?_) | ((with_reducible first | refine gk_tf ?_ | refine gk_ft ?_ | refine gk_u ?_ | refine gk_u' ?_); first | (intro _ e; (first | rw [qqY] at e | rw [qqZ] at e); subst e) | (intro _ _ e e'; (first | rw [qqY] at e | rw [qqZ] at e); subst e; subst e'))))
            refine ⟨[.agg (Ty.tc zT)], rfl, fun b => [0].getD b 0, ?_⟩
            simp only [tagN, Option.map_some]
            exact (LeB [0] (by refine ⟨?_, ?_, ?_⟩ <;> simp only [leFr, leFb, leHp, V.ren, V.renL, V.bd, V.bdL, allL, lt, Go.Ab.get, hget, List.map_cons, List.map_nil, List.length_cons, List.length_nil, List.length_append, List.getElem?_cons_zero, List.getElem?_cons_succ, List.getElem?_nil, Option.join_some, Option.join_none, List.getD_cons_zero, List.getD_cons_succ, List.getD_nil, Nat.reduceAdd, Nat.reduceLT, Nat.reduceEqDiff, Nat.zero_add, reduceIte, if_true, if_false, and_true, true_and, renL_vcells, allL_vcells, renL_pv, leBlk_some, eq_self, true_or, or_true, reduceCtorEq, false_or, oneW, allL, Ty.tc]))
          | false =>
            rw [h4, if_neg (by simp)] at hR
            cases n with
            | zero =>
              simp only at hR
              subst hR
              (repeat' (first | ((with_reducible refine aops_zero fun _ e => ?_); (first | rw [qqY] at e | rw [qqZ] at e); subst e) | ((first | (with_reducible refine qqV fun C hC => ?_) | (with_reducible refine qqW fun C hC => ?_) | ((with_reducible intro C hC); (with_reducible refine qqX ?_))); (first | (simp only [go_sem, cells_enc, Ty.tc, h1, encL_len, bne, h2, hat, pcells_enc, cells_prf, Prf.tc, scal_prf, h3, h4, c0, beq_self_eq_true]; (first | ((with_reducible apply ACall.pure0 [0] (htr)); (focus (exact vwA))) | ((with_reducible apply ACall.pure0 [] (hs)); (focus (exact vwA))) | ((with_reducible apply ACall.pure0 [0, 1, 2, 21] (hix)); (focus (exact vwA)))))); (simp only [go_sem, cells_enc, Ty.tc, h1, encL_len, bne, h2, hat, pcells_enc, cells_prf, Prf.tc, scal_prf, h3, h4, c0, beq_self_eq_true]); ((with_reducible first | refine finA hC ?_ | refine finD hC ?_); clear hC C)) | ((with_reducible first | refine qqT fun C hC => ?_ | refine qqU fun C hC => ?_ | intro C hC); simp only [go_sem, cells_enc, Ty.tc, h1, encL_len, bne, h2, hat, pcells_enc, cells_prf, Prf.tc, scal_prf, h3, h4, c0, beq_self_eq_true]; ((with_reducible first | refine finA hC ?_ | refine finD hC ?_); clear hC C)) | (with_reducible first | refine qqA fun K hK => ?_ | refine qqB fun K hK => ?_ | refine qqC fun K hK => ?_ | (refine qqD ?_; refine hK _ _ ?_; try clear hK K) | (refine qqE ?_; refine hK _ _ _ ?_ ?_; (focus kernel_rfl); try clear hK K) | (refine qqF ?_; refine hK _ _ ?_; try clear hK K) | refine qqG ?_ | refine qqH ?_ | refine qqI ?_ | refine qqJ ?_ | refine qqK ?_ | (refine qqL ?_; try clear hK K) | (refine qqM ?_; try clear hK K) | refine qqN ?_ | refine qqO ?_ | (refine qqP ?_ ?_; focus decide)) | ((with_reducible first | apply qqQ | apply qqR | apply qqS); focus (simp only [go_sem, cells_enc, Ty.tc, h1, encL_len, bne, h2, hat, pcells_enc, cells_prf, Prf.tc, scal_prf, h3, h4, c0, beq_self_eq_true]; exact rfl)) | (with_reducible first | refine gk_tt ?_ | refine gk_ff ?_ | refine ck_t ?_ | refine ck_f ?_) | ((with_reducible first | refine gk_tf ?_ | refine gk_ft ?_ | refine gk_u ?_ | refine gk_u' ?_); first | (intro _ e; (first | rw [qqY] at e | rw [qqZ] at e); subst e) | (intro _ _ e e'; (first | rw [qqY] at e | rw [qqZ] at e); subst e; subst e'))))
              refine ⟨[.agg (Ty.tc zT)], rfl, fun b => [0].getD b 0, ?_⟩
              simp only [tagN, Option.map_some]
              exact (LeB [0] (by refine ⟨?_, ?_, ?_⟩ <;> simp only [leFr, leFb, leHp, V.ren, V.renL, V.bd, V.bdL, allL, lt, Go.Ab.get, hget, List.map_cons, List.map_nil, List.length_cons, List.length_nil, List.length_append, List.getElem?_cons_zero, List.getElem?_cons_succ, List.getElem?_nil, Option.join_some, Option.join_none, List.getD_cons_zero, List.getD_cons_succ, List.getD_nil, Nat.reduceAdd, Nat.reduceLT, Nat.reduceEqDiff, Nat.zero_add, reduceIte, if_true, if_false, and_true, true_and, renL_vcells, allL_vcells, renL_pv, leBlk_some, eq_self, true_or, or_true, reduceCtorEq, false_or, oneW, allL, Ty.tc]))
            | succ k =>
              obtain ⟨m1, hm1, hml⟩ := mem_at (of_decide_eq_false h4)
              have hd1 := List.getElem?_eq_getElem (show m1 < E.ds.length by omega)
              generalize E.ds[m1] = d1 at hd1
              have hp0 : 0 ≤ p.im := by rw [hi2]; omega
              have hm0 : 0 ≤ memI E p.im t.id := by rw [hm1]; omega
              have hat1 : (encDc E.ds)[(memI E p.im t.id).toNat]? = some d1.enc := by rw [hm1, Int.toNat_natCast]; exact encDc_get hd1
              have hat2 : (encDc E.ds)[p.im.toNat]? = some d2.enc := by rw [hi2, Int.toNat_natCast]; exact encDc_get hd2
              have hz : (((k + 1 : Nat) : Int) == 0) = false := by rw [beq_eq_false_iff_ne]; omega
              have hw1 : IntKind.i64.wrap (((k + 1 : Nat) : Int) - 1) = (k : Int) := by rw [IntWalk.i64_in _ (by omega)]; omega
              have e1 : dcT E.ds (memI E p.im t.id) = d1.t := by unfold dcT; rw [hm1, Int.toNat_natCast, hd1]
              have e2 : dcP E.ds p.im = d2.ps := by unfold dcP; rw [hi2, Int.toNat_natCast, hd2]
              simp only [e1, e2] at hR
              have hap := apply_ok d1.t d2.ps p.az
              rw [enc3 d1.t] at hap
              have hc := hrec k rfl (appT d2.ps p.az d1.t) b
              rw [hR] at hc
              (repeat' (first | ((with_reducible refine aops_zero fun _ e => ?_); (first | rw [qqY] at e | rw [qqZ] at e); subst e) | ((first | (with_reducible refine qqV fun C hC => ?_) | (with_reducible refine qqW fun C hC => ?_) | ((with_reducible intro C hC); (with_reducible refine qqX ?_))); (first | (simp only [go_sem, cells_enc, Ty.tc, h1, encL_len, bne, h2, hat, hat1, hat2, hp0, hm0, pcells_dc, pcells_enc, cells_prf, Prf.tc, scal_prf, scal_enc, h3, h4, hz, hw1]; (first | ((with_reducible apply ACall.pure0 [0] (htr)); (focus (exact vwA))) | ((with_reducible apply ACall.pure0 [] (hs)); (focus (exact vwA))) | ((with_reducible apply ACall.pure0 [0, 1, 2, 21] (hix)); (focus (exact vwA))) | ((with_reducible apply ACall.pure0 [] (hap)); (focus (exact vwA)))))); (simp only [go_sem, cells_enc, Ty.tc, h1, encL_len, bne, h2, hat, hat1, hat2, hp0, hm0, pcells_dc, pcells_enc, cells_prf, Prf.tc, scal_prf, scal_enc, h3, h4, hz, hw1]); ((with_reducible first | refine finA hC ?_ | refine finD hC ?_); clear hC C)) | ((with_reducible first | refine qqT fun C hC => ?_ | refine qqU fun C hC => ?_ | intro C hC); simp only [go_sem, cells_enc, Ty.tc, h1, encL_len, bne, h2, hat, hat1, hat2, hp0, hm0, pcells_dc, pcells_enc, cells_prf, Prf.tc, scal_prf, scal_enc, h3, h4, hz, hw1]; ((with_reducible first | refine finA hC ?_ | refine finD hC ?_); clear hC C)) | (with_reducible first | refine qqA fun K hK => ?_ | refine qqB fun K hK => ?_ | refine qqC fun K hK => ?_ | (refine qqD ?_; refine hK _ _ ?_; try clear hK K) | (refine qqE ?_; refine hK _ _ _ ?_ ?_; (focus kernel_rfl); try clear hK K) | (refine qqF ?_; refine hK _ _ ?_; try clear hK K) | refine qqG ?_ | refine qqH ?_ | refine qqI ?_ | refine qqJ ?_ | refine qqK ?_ | (refine qqL ?_; try clear hK K) | (refine qqM ?_; try clear hK K) | refine qqN ?_ | refine qqO ?_ | (refine qqP ?_ ?_; focus decide)) | ((with_reducible first | apply qqQ | apply qqR | apply qqS); focus (simp only [go_sem, cells_enc, Ty.tc, h1, encL_len, bne, h2, hat, hat1, hat2, hp0, hm0, pcells_dc, pcells_enc, cells_prf, Prf.tc, scal_prf, scal_enc, h3, h4, hz, hw1]; exact rfl)) | (with_reducible first | refine gk_tt ?_ | refine gk_ff ?_ | refine ck_t ?_ | refine ck_f ?_) | ((with_reducible first | refine gk_tf ?_ | refine gk_ft ?_ | refine gk_u ?_ | refine gk_u' ?_); first | (intro _ e; (first | rw [qqY] at e | rw [qqZ] at e); subst e) | (intro _ _ e e'; (first | rw [qqY] at e | rw [qqZ] at e); subst e; subst e'))))
              refine qqW fun C hC => ?_
              simp only [go_sem]
              refine ACall.heap [0] hc rfl (by decide) (by decide) (VM.eq (.ptr 0 0 0) _ _ (VM.eq (.pv (appT d2.ps p.az d1.t).enc) _ _ (VM.eq (.pv (ii k)) _ _ .nil))) (hhN rfl) ?_
              simp only [V.ren, V.renL, outD, outB, rho0, hget_zero, Option.map_some, Option.bind_some, nbk, Ty.tc, List.map_cons, List.map_nil]
              (with_reducible refine finD hC ?_); clear hC C
              (repeat' (first | ((with_reducible refine aops_zero fun _ e => ?_); (first | rw [qqY] at e | rw [qqZ] at e); subst e) | ((with_reducible first | refine qqT fun C hC => ?_ | refine qqU fun C hC => ?_ | intro C hC); simp only [go_sem]; ((with_reducible first | refine finA hC ?_ | refine finD hC ?_); clear hC C)) | (with_reducible first | refine qqA fun K hK => ?_ | refine qqB fun K hK => ?_ | refine qqC fun K hK => ?_ | (refine qqD ?_; refine hK _ _ ?_; try clear hK K) | (refine qqE ?_; refine hK _ _ _ ?_ ?_; (focus kernel_rfl); try clear hK K) | (refine qqF ?_; refine hK _ _ ?_; try clear hK K) | refine qqG ?_ | refine qqH ?_ | refine qqI ?_ | refine qqJ ?_ | refine qqK ?_ | (refine qqL ?_; try clear hK K) | (refine qqM ?_; try clear hK K) | refine qqN ?_ | refine qqO ?_ | (refine qqP ?_ ?_; focus decide)) | ((with_reducible first | apply qqQ | apply qqR | apply qqS); focus (simp only [go_sem]; exact rfl)) | (with_reducible first | refine gk_tt ?_ | refine gk_ff ?_ | refine ck_t ?_ | refine ck_f ?_) | ((with_reducible first | refine gk_tf ?_ | refine gk_ft ?_ | refine gk_u ?_ | refine gk_u' ?_); first | (intro _ e; (first | rw [qqY] at e | rw [qqZ] at e); subst e) | (intro _ _ e e'; (first | rw [qqY] at e | rw [qqZ] at e); subst e; subst e'))))
              refine ⟨[.agg (Ty.tc R.1)], rfl, fun b => [0].getD b 0, ?_⟩
              simp only [tagN, Option.map_some]
              exact (LeB [0] (by refine ⟨?_, ?_, ?_⟩ <;> simp only [leFr, leFb, leHp, V.ren, V.renL, V.bd, V.bdL, allL, lt, Go.Ab.get, hget, List.map_cons, List.map_nil, List.length_cons, List.length_nil, List.length_append, List.getElem?_cons_zero, List.getElem?_cons_succ, List.getElem?_nil, Option.join_some, Option.join_none, List.getD_cons_zero, List.getD_cons_succ, List.getD_nil, Nat.reduceAdd, Nat.reduceLT, Nat.reduceEqDiff, Nat.zero_add, reduceIte, if_true, if_false, and_true, true_and, renL_vcells, allL_vcells, renL_pv, leBlk_some, eq_self, true_or, or_true, reduceCtorEq, false_or, oneW, allL, Ty.tc]))
end Go.Proofs.Ytbdoblgofddhdaa
