/- B2: joined from ZU2. -/
import Derived.Test.YtiediojibljpiaaVFnU
import Derived.Test.YtiediojibljpiaaVZ5
import Derived.Test.YtiediojibljpiaaVB1
/- slices.ContainsFunc and IndexFunc with a closure that writes objects; occurs, bind. -/
set_option maxRecDepth 10000
set_option linter.unusedSimpArgs false
set_option linter.unusedVariables false
namespace Go.Proofs.Ytiediojibljpiaa
open Go Go.Ab
section
variable {σ : Type}
def idxM (f : Ty → σ → Option (Bool × σ)) : List Ty → Nat → σ → Option (Int × σ)
  | [], _, x => some (-1, x)
  | t :: ts, i, x => match f t x with
    | none => none
    | some (b, x') => if b then some ((i : Int), x') else idxM f ts (i + 1) x'
def anyM (f : Ty → σ → Option (Bool × σ)) : List Ty → σ → Option (Bool × σ)
  | [], x => some (false, x)
  | t :: ts, x => match f t x with
    | none => none
    | some (b, x') => if b then some (true, x') else anyM f ts x'
theorem anyM_idxM (f : Ty → σ → Option (Bool × σ)) : ∀ (ts : List Ty) (i : Nat) (x x' : σ) (b : Bool), anyM f ts x = some (b, x') → ∃ j, idxM f ts i x = some (j, x') ∧ decide (j ≥ 0) = b
  | [], i, x, x', b, h => by
    simp only [anyM, Option.some.injEq, Prod.mk.injEq] at h
    obtain ⟨rfl, rfl⟩ := h
    exact ⟨-1, rfl, rfl⟩
  | t :: ts, i, x, x', b, h => by
    simp only [anyM] at h
    simp only [idxM]
    split at h
    · cases h
    · rename_i b1 x1 e
      cases b1 with
      | true =>
        simp only [if_true, Option.some.injEq, Prod.mk.injEq] at h
        obtain ⟨rfl, rfl⟩ := h
        exact ⟨i, rfl, by simp⟩
      | false =>
        rw [if_neg (by simp)] at h
        obtain ⟨j, h1, h2⟩ := anyM_idxM f ts (i + 1) x1 x' b h
        exact ⟨j, by rw [if_neg (by simp)]; exact h1, h2⟩
set_option maxHeartbeats 1000000 in
theorem idxO_ok (fid : FuncId) (caps : List PV) (f : Ty → σ → Option (Bool × σ)) (toO : σ → OS) (ts : List Ty) (hp : ∀ t ∈ ts, ∀ x b x', f t x = some (b, x') → OCall Try.prog fid ([Ty.enc t] ++ caps) (toO x) (OIs (bb b) (toO x')))
    {x x' : σ} {i : Int} (h : idxM f ts 0 x = some (i, x')) : OCall Try.prog 84 [.list 3 (encL ts), .fn fid caps] (toO x) (OIs (ii i) (toO x')) := by
  refine OCall.intro' fn84 (by simp) fun hok => ?_
  have hss : ts.length ≤ 1099511627776 := by
    simp only [PV.okL, PV.ok, encL_len, big] at hok; exact hok.1.1
  clear hok
  unfold ac84
  simp only [argFr]
  (repeat' (first|((with_reducible refine aopsO_cons' fun C hC=>?_);simp only [go_sem, encL_len];((with_reducible refine finO hC ?_);clear hC C))|((with_reducible refine aopsO_ob' fun C hC=>?_);simp only [go_sem, encL_len];((with_reducible refine finOb hC ?_);clear hC C))|((with_reducible refine aopsDO_cons' fun C hC=>?_);simp only [go_sem, encL_len];((with_reducible refine finDO hC ?_);clear hC C))|((with_reducible refine aopsDO_ob' ?_ fun C hC=>?_);(focus rfl);simp only [go_sem, encL_len];((with_reducible refine finDOb hC ?_);clear hC C))|(with_reducible first|refine awpO_seq_k fun K hK=>?_|refine awpO_reg_k fun K hK=>?_|refine awpO_dreg_k fun K hK=>?_|(refine aopsO_nil ?_;refine hK _ _ _ ?_;try clear hK K)|(refine aopsDO_nil ?_;refine hK _ _ _ _ ?_ ?_;(focus kernel_rfl);try clear hK K)|(refine thnO_normal ?_;refine hK _ _ _ ?_;try clear hK K)|refine catchO_normal ?_|refine awpO_skip_k ?_|refine awpO_ret_k ?_|refine awpO_exit_k ?_|refine awpO_block_k ?_|(refine thnO_exit ?_;try clear hK K)|(refine thnO_ret ?_;try clear hK K)|refine catchO_ret ?_|refine catchO_exit ?_|(refine catchO_other ?_ ?_;focus decide))|((with_reducible first|apply aopsO_guard'|apply aopsDO_guard'|apply awpO_cond_g);focus (simp only [go_sem, encL_len];exact rfl))|(with_reducible first|refine gk_tt ?_|refine gk_ff ?_|refine ck_t ?_|refine ck_f ?_)|((with_reducible first|refine gk_tf ?_|refine gk_ft ?_|refine gk_u ?_|refine gk_u' ?_);first|(intro _ e;(first|rw [qqY] at e|rw [qqZ] at e);subst e)|(intro _ _ e e';(first|rw [qqY] at e|rw [qqZ] at e);subst e;subst e'))))
  have rows : ∀ (rest pre : List Ty) (y : σ), pre ++ rest = ts → idxM f rest pre.length y = some (i, x') → loopNO (awpO Try.prog ac84_l0) (catchO 0 (thnO K (retPO [RV.tmp 4] (OIs (ii i) (toO x'))))) (rest.length + 1)
     [(8, .pv (ii pre.length)), (7, .pv (ii ts.length)), (1, .pv (.fn fid caps)), (0, .pv (.list 3 (encL ts)))] [] (toO y) := by
    intro rest
    induction rest with
    | nil =>
      intro pre y hpre hi
      have hpre : pre = ts := by simpa using hpre
      subst hpre
      simp only [idxM, Option.some.injEq, Prod.mk.injEq] at hi
      obtain ⟨rfl, rfl⟩ := hi
      refine loopNO_k fun K1 hK1 => ?_
      unfold ac84_l0
      (repeat' (first|((with_reducible refine aopsO_cons' fun C hC=>?_);simp only [go_sem, lt_end];((with_reducible refine finO hC ?_);clear hC C))|((with_reducible refine aopsO_ob' fun C hC=>?_);simp only [go_sem, lt_end];((with_reducible refine finOb hC ?_);clear hC C))|((with_reducible refine aopsDO_cons' fun C hC=>?_);simp only [go_sem, lt_end];((with_reducible refine finDO hC ?_);clear hC C))|((with_reducible refine aopsDO_ob' ?_ fun C hC=>?_);(focus rfl);simp only [go_sem, lt_end];((with_reducible refine finDOb hC ?_);clear hC C))|(with_reducible first|refine awpO_seq_k fun K hK=>?_|refine awpO_reg_k fun K hK=>?_|refine awpO_dreg_k fun K hK=>?_|(refine aopsO_nil ?_;refine hK _ _ _ ?_;try clear hK K)|(refine aopsDO_nil ?_;refine hK _ _ _ _ ?_ ?_;(focus kernel_rfl);try clear hK K)|(refine thnO_normal ?_;refine hK _ _ _ ?_;try clear hK K)|refine catchO_normal ?_|refine awpO_skip_k ?_|refine awpO_ret_k ?_|refine awpO_exit_k ?_|refine awpO_block_k ?_|(refine thnO_exit ?_;try clear hK K)|(refine thnO_ret ?_;try clear hK K)|refine catchO_ret ?_|refine catchO_exit ?_|(refine catchO_other ?_ ?_;focus decide))|((with_reducible first|apply aopsO_guard'|apply aopsDO_guard'|apply awpO_cond_g);focus (simp only [go_sem, lt_end];exact rfl))|(with_reducible first|refine gk_tt ?_|refine gk_ff ?_|refine ck_t ?_|refine ck_f ?_)|((with_reducible first|refine gk_tf ?_|refine gk_ft ?_|refine gk_u ?_|refine gk_u' ?_);first|(intro _ e;(first|rw [qqY] at e|rw [qqZ] at e);subst e)|(intro _ _ e e';(first|rw [qqY] at e|rw [qqZ] at e);subst e;subst e'))))
      (refine retPO_1 (List.range 40) rfl ?_ (OLe.refl _); exact vwA)
    | cons t rest ih =>
      intro pre y hpre hi
      have hlt : decide ((pre.length : Int) < (ts.length : Int)) = true := by subst hpre; exact lt_app _ _ _
      have hat : (encL ts)[pre.length]? = some t.enc := by subst hpre; exact encL_at _ _ _
      have hb : pre.length + 1 ≤ big := by have := congrArg List.length hpre; simp at this; unfold big; omega
      simp only [idxM] at hi
      split at hi
      · cases hi
      rename_i b y' he
      have hc := hp t (by subst hpre; simp) _ _ _ he
      refine loopNO_k fun K1 hK1 => ?_
      unfold ac84_l0
      cases b with
      | true =>
        rw [if_pos rfl] at hi
        simp only [Option.some.injEq, Prod.mk.injEq] at hi
        obtain ⟨rfl, rfl⟩ := hi
        (repeat' (first|((with_reducible refine aopsO_call0 (hc) ?_ ?_ ?_);(focus (simp only [go_sem, hlt, hat, cells_enc, pcells_enc, enc_eq];done));(focus (simp only [go_sem, hlt, hat, cells_enc, pcells_enc, enc_eq];done));rintro _ _ _ ⟨rfl, e2⟩ e;(replace e2 := Eq.symm e2;subst e2);(first|rw [qqY] at e|rw [qqZ] at e);subst e)|((with_reducible refine aopsDO_call0 (hc) ?_ ?_ ?_);(focus (simp only [go_sem, hlt, hat, cells_enc, pcells_enc, enc_eq];done));(focus (simp only [go_sem, hlt, hat, cells_enc, pcells_enc, enc_eq];done));intro _ _ e e';(first|rw [qqY] at e|rw [qqZ] at e);subst e;subst e')|((with_reducible refine aopsO_callX (hc) ?_ ?_ ?_);(focus (simp only [go_sem, hlt, hat, cells_enc, pcells_enc, enc_eq];done));(focus (simp only [go_sem, hlt, hat, cells_enc, pcells_enc, enc_eq];done));rintro _ _ _ ⟨rfl, e2⟩ e;(replace e2 := Eq.symm e2;subst e2);(first|rw [qqY] at e|rw [qqZ] at e);subst e)|((with_reducible refine aopsO_cons' fun C hC=>?_);simp only [go_sem, hlt, hat, cells_enc, pcells_enc, enc_eq];((with_reducible refine finO hC ?_);clear hC C))|((with_reducible refine aopsO_ob' fun C hC=>?_);simp only [go_sem, hlt, hat, cells_enc, pcells_enc, enc_eq];((with_reducible refine finOb hC ?_);clear hC C))|((with_reducible refine aopsDO_cons' fun C hC=>?_);simp only [go_sem, hlt, hat, cells_enc, pcells_enc, enc_eq];((with_reducible refine finDO hC ?_);clear hC C))|((with_reducible refine aopsDO_ob' ?_ fun C hC=>?_);(focus rfl);simp only [go_sem, hlt, hat, cells_enc, pcells_enc, enc_eq];((with_reducible refine finDOb hC ?_);clear hC C))|(with_reducible first|refine awpO_seq_k fun K hK=>?_|refine awpO_reg_k fun K hK=>?_|refine awpO_dreg_k fun K hK=>?_|(refine aopsO_nil ?_;refine hK _ _ _ ?_;try clear hK K)|(refine aopsDO_nil ?_;refine hK _ _ _ _ ?_ ?_;(focus kernel_rfl);try clear hK K)|(refine thnO_normal ?_;refine hK _ _ _ ?_;try clear hK K)|refine catchO_normal ?_|refine awpO_skip_k ?_|refine awpO_ret_k ?_|refine awpO_exit_k ?_|refine awpO_block_k ?_|(refine thnO_exit ?_;try clear hK K)|(refine thnO_ret ?_;try clear hK K)|refine catchO_ret ?_|refine catchO_exit ?_|(refine catchO_other ?_ ?_;focus decide))|((with_reducible first|apply aopsO_guard'|apply aopsDO_guard'|apply awpO_cond_g);focus (simp only [go_sem, hlt, hat, cells_enc, pcells_enc, enc_eq];exact rfl))|(with_reducible first|refine gk_tt ?_|refine gk_ff ?_|refine ck_t ?_|refine ck_f ?_)|((with_reducible first|refine gk_tf ?_|refine gk_ft ?_|refine gk_u ?_|refine gk_u' ?_);first|(intro _ e;(first|rw [qqY] at e|rw [qqZ] at e);subst e)|(intro _ _ e e';(first|rw [qqY] at e|rw [qqZ] at e);subst e;subst e'))))
        (refine retPO_1 (List.range 40) rfl ?_ (OLe.refl _); exact vwA)
      | false =>
        rw [if_neg (by simp)] at hi
        (repeat' (first|((with_reducible refine aopsO_call0 (hc) ?_ ?_ ?_);(focus (simp only [go_sem, hlt, hat, cells_enc, pcells_enc, enc_eq];done));(focus (simp only [go_sem, hlt, hat, cells_enc, pcells_enc, enc_eq];done));rintro _ _ _ ⟨rfl, e2⟩ e;(replace e2 := Eq.symm e2;subst e2);(first|rw [qqY] at e|rw [qqZ] at e);subst e)|((with_reducible refine aopsDO_call0 (hc) ?_ ?_ ?_);(focus (simp only [go_sem, hlt, hat, cells_enc, pcells_enc, enc_eq];done));(focus (simp only [go_sem, hlt, hat, cells_enc, pcells_enc, enc_eq];done));intro _ _ e e';(first|rw [qqY] at e|rw [qqZ] at e);subst e;subst e')|((with_reducible refine aopsO_callX (hc) ?_ ?_ ?_);(focus (simp only [go_sem, hlt, hat, cells_enc, pcells_enc, enc_eq];done));(focus (simp only [go_sem, hlt, hat, cells_enc, pcells_enc, enc_eq];done));rintro _ _ _ ⟨rfl, e2⟩ e;(replace e2 := Eq.symm e2;subst e2);(first|rw [qqY] at e|rw [qqZ] at e);subst e)|((with_reducible refine aopsO_cons' fun C hC=>?_);simp only [go_sem, hlt, hat, cells_enc, pcells_enc, enc_eq];((with_reducible refine finO hC ?_);clear hC C))|((with_reducible refine aopsO_ob' fun C hC=>?_);simp only [go_sem, hlt, hat, cells_enc, pcells_enc, enc_eq];((with_reducible refine finOb hC ?_);clear hC C))|((with_reducible refine aopsDO_cons' fun C hC=>?_);simp only [go_sem, hlt, hat, cells_enc, pcells_enc, enc_eq];((with_reducible refine finDO hC ?_);clear hC C))|((with_reducible refine aopsDO_ob' ?_ fun C hC=>?_);(focus rfl);simp only [go_sem, hlt, hat, cells_enc, pcells_enc, enc_eq];((with_reducible refine finDOb hC ?_);clear hC C))|(with_reducible first|refine awpO_seq_k fun K hK=>?_|refine awpO_reg_k fun K hK=>?_|refine awpO_dreg_k fun K hK=>?_|(refine aopsO_nil ?_;refine hK _ _ _ ?_;try clear hK K)|(refine aopsDO_nil ?_;refine hK _ _ _ _ ?_ ?_;(focus kernel_rfl);try clear hK K)|(refine thnO_normal ?_;refine hK _ _ _ ?_;try clear hK K)|refine catchO_normal ?_|refine awpO_skip_k ?_|refine awpO_ret_k ?_|refine awpO_exit_k ?_|refine awpO_block_k ?_|(refine thnO_exit ?_;try clear hK K)|(refine thnO_ret ?_;try clear hK K)|refine catchO_ret ?_|refine catchO_exit ?_|(refine catchO_other ?_ ?_;focus decide))|((with_reducible first|apply aopsO_guard'|apply aopsDO_guard'|apply awpO_cond_g);focus (simp only [go_sem, hlt, hat, cells_enc, pcells_enc, enc_eq];exact rfl))|(with_reducible first|refine gk_tt ?_|refine gk_ff ?_|refine ck_t ?_|refine ck_f ?_)|((with_reducible first|refine gk_tf ?_|refine gk_ft ?_|refine gk_u ?_|refine gk_u' ?_);first|(intro _ e;(first|rw [qqY] at e|rw [qqZ] at e);subst e)|(intro _ _ e e';(first|rw [qqY] at e|rw [qqZ] at e);subst e;subst e'))))
        have hw := wrapS (n := pre.length) (by unfold big at hb; omega)
        refine thnO_normal ?_
        refine hK1 _ _ _ _ _ _ _ (LeB [] (by refine ⟨?_, ?_, ?_⟩ <;> simp only [leFr, leFb, leHp, V.ren, V.renL, V.bd, V.bdL, allL, lt, Go.Ab.get, hget, List.map_cons, List.map_nil, List.length_cons, List.length_nil, List.length_append, List.getElem?_cons_zero, List.getElem?_cons_succ, List.getElem?_nil, Option.join_some, Option.join_none, List.getD_cons_zero, List.getD_cons_succ, List.getD_nil, Nat.reduceAdd, Nat.reduceLT, Nat.reduceEqDiff, Nat.zero_add, reduceIte, if_true, if_false, and_true, true_and, renL_vcells, allL_vcells, renL_pv, leBlk_some, eq_self, true_or, or_true, reduceCtorEq, false_or, hw, List.length_append])) (OLe.refl _) (ih (pre ++ [t]) _ (by simp [hpre]) (by simpa using hi))
  refine awpO_loop_k _ (LeB [] (by refine ⟨?_, ?_, ?_⟩ <;> simp only [leFr, leFb, leHp, V.ren, V.renL, V.bd, V.bdL, allL, lt, Go.Ab.get, hget, List.map_cons, List.map_nil, List.length_cons, List.length_nil, List.length_append, List.getElem?_cons_zero, List.getElem?_cons_succ, List.getElem?_nil, Option.join_some, Option.join_none, List.getD_cons_zero, List.getD_cons_succ, List.getD_nil, Nat.reduceAdd, Nat.reduceLT, Nat.reduceEqDiff, Nat.zero_add, reduceIte, if_true, if_false, and_true, true_and, renL_vcells, allL_vcells, renL_pv, leBlk_some, eq_self, true_or, or_true, reduceCtorEq, false_or, c0])) (OLe.refl _) (rows ts [] x rfl h)
theorem hasO_ok (fid : FuncId) (caps : List PV) (f : Ty → σ → Option (Bool × σ)) (toO : σ → OS) (ts : List Ty) (hp : ∀ t ∈ ts, ∀ x b x', f t x = some (b, x') → OCall Try.prog fid ([Ty.enc t] ++ caps) (toO x) (OIs (bb b) (toO x')))
    {x x' : σ} {b : Bool} (h : anyM f ts x = some (b, x')) : OCall Try.prog 68 [.list 3 (encL ts), .fn fid caps] (toO x) (OIs (bb b) (toO x')) := by
  obtain ⟨j, h1, h2⟩ := anyM_idxM f ts 0 x x' b h
  have hc := idxO_ok fid caps f toO ts hp h1
  refine OCall.intro fn68 (by simp) ?_
  unfold ac68
  simp only [argFr]
  (repeat' (first|((with_reducible refine aopsO_call0 (hc) ?_ ?_ ?_);(focus (simp only [go_sem, h2];done));(focus (simp only [go_sem, h2];done));rintro _ _ _ ⟨rfl, e2⟩ e;(replace e2 := Eq.symm e2;subst e2);(first|rw [qqY] at e|rw [qqZ] at e);subst e)|((with_reducible refine aopsDO_call0 (hc) ?_ ?_ ?_);(focus (simp only [go_sem, h2];done));(focus (simp only [go_sem, h2];done));intro _ _ e e';(first|rw [qqY] at e|rw [qqZ] at e);subst e;subst e')|((with_reducible refine aopsO_callX (hc) ?_ ?_ ?_);(focus (simp only [go_sem, h2];done));(focus (simp only [go_sem, h2];done));rintro _ _ _ ⟨rfl, e2⟩ e;(replace e2 := Eq.symm e2;subst e2);(first|rw [qqY] at e|rw [qqZ] at e);subst e)|((with_reducible refine aopsO_cons' fun C hC=>?_);simp only [go_sem, h2];((with_reducible refine finO hC ?_);clear hC C))|((with_reducible refine aopsO_ob' fun C hC=>?_);simp only [go_sem, h2];((with_reducible refine finOb hC ?_);clear hC C))|((with_reducible refine aopsDO_cons' fun C hC=>?_);simp only [go_sem, h2];((with_reducible refine finDO hC ?_);clear hC C))|((with_reducible refine aopsDO_ob' ?_ fun C hC=>?_);(focus rfl);simp only [go_sem, h2];((with_reducible refine finDOb hC ?_);clear hC C))|(with_reducible first|refine awpO_seq_k fun K hK=>?_|refine awpO_reg_k fun K hK=>?_|refine awpO_dreg_k fun K hK=>?_|(refine aopsO_nil ?_;refine hK _ _ _ ?_;try clear hK K)|(refine aopsDO_nil ?_;refine hK _ _ _ _ ?_ ?_;(focus kernel_rfl);try clear hK K)|(refine thnO_normal ?_;refine hK _ _ _ ?_;try clear hK K)|refine catchO_normal ?_|refine awpO_skip_k ?_|refine awpO_ret_k ?_|refine awpO_exit_k ?_|refine awpO_block_k ?_|(refine thnO_exit ?_;try clear hK K)|(refine thnO_ret ?_;try clear hK K)|refine catchO_ret ?_|refine catchO_exit ?_|(refine catchO_other ?_ ?_;focus decide))|((with_reducible first|apply aopsO_guard'|apply aopsDO_guard'|apply awpO_cond_g);focus (simp only [go_sem, h2];exact rfl))|(with_reducible first|refine gk_tt ?_|refine gk_ff ?_|refine ck_t ?_|refine ck_f ?_)|((with_reducible first|refine gk_tf ?_|refine gk_ft ?_|refine gk_u ?_|refine gk_u' ?_);first|(intro _ e;(first|rw [qqY] at e|rw [qqZ] at e);subst e)|(intro _ _ e e';(first|rw [qqY] at e|rw [qqZ] at e);subst e;subst e'))))
  (refine retPO_1 (List.range 40) rfl ?_ (OLe.refl _); exact vwA)
end
def encV (V : List Int) : List (Int × PV) := V.map fun a => (a, ii 1)
theorem lkm_V : ∀ (V : List Int) (a : Int), lkm (encV V) a = if V.contains a then some (ii 1) else none
  | [], a => rfl
  | b :: V, a => by
    simp only [encV, List.map_cons, lkm, List.contains_cons]
    rw [← encV, lkm_V V a]
    by_cases h : a = b
    · simp [h]
    · have : (a == b) = false := by simp [h]
      simp [h, this]
theorem mins_V : ∀ (V : List Int) (a : Int), V.contains a = false → mins (encV V) a (ii 1) = encV (V ++ [a])
  | [], a, _ => rfl
  | b :: V, a, h => by
    simp only [List.contains_cons, Bool.or_eq_false_iff, beq_eq_false_iff_ne] at h
    simp only [encV, List.map_cons, mins, List.cons_append, if_neg h.1]
    rw [← encV, mins_V V a h.2, encV]
def ocN : Nat → SB → Int → Ty → List Int → Option (Bool × List Int)
  | 0, _, _, _, _ => none
  | n + 1, L, v, t, V => if t.kd == 1 then
      (if t.id == v then some (true, V) else match lk L t.id with
        | none => some (false, V)
        | some u => if V.contains t.id then some (false, V) else ocN n L v u (V ++ [t.id]))
    else anyM (ocN n L v) t.args V
theorem occ_cl {k4 k5 k7 s vm : Nat} {v : Int} {t : Ty} {O : OS} {b : Bool} {O1 : OS} (h4 : O k4 = some (.cells 56 [pS s])) (h5 : O k5 = some (.cells 3 [ii v])) (h7 : O k7 = some (.cells 107 [pM vm]))
    (h : OCall Try.prog 86 [pS s, ii v, t.enc, pM vm] O (OIs (bb b) O1)) : OCall Try.prog 92 ([t.enc] ++ [pS k4, pS k5, pS k7]) O (OIs (bb b) O1) := by
  refine OCall.intro fn92 (by simp) ?_
  unfold ac92
  simp only [argFr, List.cons_append, List.nil_append]
  (repeat' (first|((with_reducible refine aopsO_call0 (h) ?_ ?_ ?_);(focus (simp only [go_sem, cells_enc, pcells_enc, enc_eq, Ty.tc, h4, h5, h7];done));(focus (simp only [go_sem, cells_enc, pcells_enc, enc_eq, Ty.tc, h4, h5, h7];done));rintro _ _ _ ⟨rfl, e2⟩ e;(replace e2 := Eq.symm e2;subst e2);(first|rw [qqY] at e|rw [qqZ] at e);subst e)|((with_reducible refine aopsDO_call0 (h) ?_ ?_ ?_);(focus (simp only [go_sem, cells_enc, pcells_enc, enc_eq, Ty.tc, h4, h5, h7];done));(focus (simp only [go_sem, cells_enc, pcells_enc, enc_eq, Ty.tc, h4, h5, h7];done));intro _ _ e e';(first|rw [qqY] at e|rw [qqZ] at e);subst e;subst e')|((with_reducible refine aopsO_callX (h) ?_ ?_ ?_);(focus (simp only [go_sem, cells_enc, pcells_enc, enc_eq, Ty.tc, h4, h5, h7];done));(focus (simp only [go_sem, cells_enc, pcells_enc, enc_eq, Ty.tc, h4, h5, h7];done));rintro _ _ _ ⟨rfl, e2⟩ e;(replace e2 := Eq.symm e2;subst e2);(first|rw [qqY] at e|rw [qqZ] at e);subst e)|((with_reducible refine aopsO_cons' fun C hC=>?_);simp only [go_sem, cells_enc, pcells_enc, enc_eq, Ty.tc, h4, h5, h7];((with_reducible refine finO hC ?_);clear hC C))|((with_reducible refine aopsO_ob' fun C hC=>?_);simp only [go_sem, cells_enc, pcells_enc, enc_eq, Ty.tc, h4, h5, h7];((with_reducible refine finOb hC ?_);clear hC C))|((with_reducible refine aopsDO_cons' fun C hC=>?_);simp only [go_sem, cells_enc, pcells_enc, enc_eq, Ty.tc, h4, h5, h7];((with_reducible refine finDO hC ?_);clear hC C))|((with_reducible refine aopsDO_ob' ?_ fun C hC=>?_);(focus rfl);simp only [go_sem, cells_enc, pcells_enc, enc_eq, Ty.tc, h4, h5, h7];((with_reducible refine finDOb hC ?_);clear hC C))|(with_reducible first|refine awpO_seq_k fun K hK=>?_|refine awpO_reg_k fun K hK=>?_|refine awpO_dreg_k fun K hK=>?_|(refine aopsO_nil ?_;refine hK _ _ _ ?_;try clear hK K)|(refine aopsDO_nil ?_;refine hK _ _ _ _ ?_ ?_;(focus kernel_rfl);try clear hK K)|(refine thnO_normal ?_;refine hK _ _ _ ?_;try clear hK K)|refine catchO_normal ?_|refine awpO_skip_k ?_|refine awpO_ret_k ?_|refine awpO_exit_k ?_|refine awpO_block_k ?_|(refine thnO_exit ?_;try clear hK K)|(refine thnO_ret ?_;try clear hK K)|refine catchO_ret ?_|refine catchO_exit ?_|(refine catchO_other ?_ ?_;focus decide))|((with_reducible first|apply aopsO_guard'|apply aopsDO_guard'|apply awpO_cond_g);focus (simp only [go_sem, cells_enc, pcells_enc, enc_eq, Ty.tc, h4, h5, h7];exact rfl))|(with_reducible first|refine gk_tt ?_|refine gk_ff ?_|refine ck_t ?_|refine ck_f ?_)|((with_reducible first|refine gk_tf ?_|refine gk_ft ?_|refine gk_u ?_|refine gk_u' ?_);first|(intro _ e;(first|rw [qqY] at e|rw [qqZ] at e);subst e)|(intro _ _ e e';(first|rw [qqY] at e|rw [qqZ] at e);subst e;subst e'))))
  (refine retPO_1 (List.range 40) rfl ?_ (OLe.refl _); exact vwA)
set_option maxHeartbeats 4000000 in
theorem occ_ok {s m vm : Nat} {p : Int} {L : SB} {v : Int} (hne : vm ≠ m) : ∀ (n : Nat) (t : Ty) (V : List Int) (O : OS) (b : Bool) (V' : List Int), SolO O s m p L → O vm = some (.mp (encV V)) → ocN n L v t V = some (b, V') →
    OCall Try.prog 86 [pS s, ii v, t.enc, pM vm] O (OIs (bb b) (oupd O vm (.mp (encV V')))) := by
  intro n
  induction n with
  | zero => intro t V O b V' _ _ h; cases h
  | succ n ih =>
    intro t V O b V' hS hV h
    refine OCall.intro fn86 (by simp) ?_
    unfold ac86
    simp only [argFr]
    refine awpO_seq_k fun K hK => ?_
    refine awpO_reg_k fun K hK => ?_
    refine aopsO_boxO (cs := [.pv (pS s)]) (ps := [pS s]) rfl rfl rfl fun k4 f4 => ?_
    refine aopsO_boxO (cs := [.pv (ii v)]) (ps := [ii v]) rfl rfl rfl fun k5 f5 => ?_
    refine aopsO_cons' fun C hC => ?_
    simp only [go_sem, cells_enc, tc_len]
    (with_reducible refine finO hC ?_); clear hC C
    refine aopsO_boxO (cs := [.pv (pM vm)]) (ps := [pM vm]) rfl rfl rfl fun k7 f7 => ?_
    have hs := oupd_keep f7 (y := .cells 107 [pM vm]) (oupd_keep f5 (y := .cells 3 [ii v]) (oupd_keep f4 (y := .cells 56 [pS s]) hS.1))
    have hm := oupd_keep f7 (y := .cells 107 [pM vm]) (oupd_keep f5 (y := .cells 3 [ii v]) (oupd_keep f4 (y := .cells 56 [pS s]) hS.2))
    have hv := oupd_keep f7 (y := .cells 107 [pM vm]) (oupd_keep f5 (y := .cells 3 [ii v]) (oupd_keep f4 (y := .cells 56 [pS s]) hV))
    have h4 := oupd_keep f7 (y := .cells 107 [pM vm]) (oupd_keep f5 (y := .cells 3 [ii v]) (oupd_same O k4 (.cells 56 [pS s])))
    have h5 := oupd_keep f7 (y := .cells 107 [pM vm]) (oupd_same (oupd O k4 (.cells 56 [pS s])) k5 (.cells 3 [ii v]))
    have h7 := oupd_same (oupd (oupd O k4 (.cells 56 [pS s])) k5 (.cells 3 [ii v])) k7 (.cells 107 [pM vm])
    have hol : ∀ V', OLe (oupd (oupd (oupd (oupd O k4 (.cells 56 [pS s])) k5 (.cells 3 [ii v])) k7 (.cells 107 [pM vm])) vm (.mp (encV V'))) (oupd O vm (.mp (encV V'))) := by
      intro V' j x e
      by_cases hj : j = vm
      · subst hj; rw [oupd_same] at e ⊢; exact e
      · rw [oupd_ne _ _ hj] at e ⊢
        exact oupd_keep f7 (oupd_keep f5 (oupd_keep f4 e))
    generalize oupd (oupd (oupd O k4 (.cells 56 [pS s])) k5 (.cells 3 [ii v])) k7 (.cells 107 [pM vm]) = O4 at *
    have n4 : k4 ≠ vm := fun e => by rw [e, hv] at h4; simp at h4
    have n5 : k5 ≠ vm := fun e => by rw [e, hv] at h5; simp at h5
    have n7 : k7 ≠ vm := fun e => by rw [e, hv] at h7; simp at h7
    have ns : s ≠ vm := fun e => by rw [e, hv] at hs; simp [svO] at hs
    clear f4 f5 f7
    have hsv := hs
    unfold svO at hsv
    simp only [ocN] at h
    cases hk : (t.kd == 1) with
    | false =>
      rw [hk, if_neg (by decide)] at h
      have hc := hasO_ok 92 [pS k4, pS k5, pS k7] (ocN n L v) (fun V => oupd O4 vm (.mp (encV V))) t.args (fun u _ V1 b1 V1' h1 => occ_cl (by rw [oupd_ne _ _ n4]; exact h4) (by rw [oupd_ne _ _ n5]; exact h5) (by rw [oupd_ne _ _ n7]; exact h7) (by
        have := ih u V1 (oupd O4 vm (.mp (encV V1))) b1 V1' ⟨by rw [oupd_ne _ _ ns]; exact hs, by rw [oupd_ne _ _ (Ne.symm hne)]; exact hm⟩ (oupd_same _ _ _) h1
        rw [oupd_oupd] at this; exact this)) h
      simp only [oupd_id hv] at hc
      (repeat' (first|((with_reducible refine aopsO_call0 (hc) ?_ ?_ ?_);(focus (simp only [go_sem, Ty.tc, hk];done));(focus (simp only [go_sem, Ty.tc, hk];done));rintro _ _ _ ⟨rfl, e2⟩ e;(replace e2 := Eq.symm e2;subst e2);(first|rw [qqY] at e|rw [qqZ] at e);subst e)|((with_reducible refine aopsDO_call0 (hc) ?_ ?_ ?_);(focus (simp only [go_sem, Ty.tc, hk];done));(focus (simp only [go_sem, Ty.tc, hk];done));intro _ _ e e';(first|rw [qqY] at e|rw [qqZ] at e);subst e;subst e')|((with_reducible refine aopsO_callX (hc) ?_ ?_ ?_);(focus (simp only [go_sem, Ty.tc, hk];done));(focus (simp only [go_sem, Ty.tc, hk];done));rintro _ _ _ ⟨rfl, e2⟩ e;(replace e2 := Eq.symm e2;subst e2);(first|rw [qqY] at e|rw [qqZ] at e);subst e)|((with_reducible refine aopsO_cons' fun C hC=>?_);simp only [go_sem, Ty.tc, hk];((with_reducible refine finO hC ?_);clear hC C))|((with_reducible refine aopsO_ob' fun C hC=>?_);simp only [go_sem, Ty.tc, hk];((with_reducible refine finOb hC ?_);clear hC C))|((with_reducible refine aopsDO_cons' fun C hC=>?_);simp only [go_sem, Ty.tc, hk];((with_reducible refine finDO hC ?_);clear hC C))|((with_reducible refine aopsDO_ob' ?_ fun C hC=>?_);(focus rfl);simp only [go_sem, Ty.tc, hk];((with_reducible refine finDOb hC ?_);clear hC C))|(with_reducible first|refine awpO_seq_k fun K hK=>?_|refine awpO_reg_k fun K hK=>?_|refine awpO_dreg_k fun K hK=>?_|(refine aopsO_nil ?_;refine hK _ _ _ ?_;try clear hK K)|(refine aopsDO_nil ?_;refine hK _ _ _ _ ?_ ?_;(focus kernel_rfl);try clear hK K)|(refine thnO_normal ?_;refine hK _ _ _ ?_;try clear hK K)|refine catchO_normal ?_|refine awpO_skip_k ?_|refine awpO_ret_k ?_|refine awpO_exit_k ?_|refine awpO_block_k ?_|(refine thnO_exit ?_;try clear hK K)|(refine thnO_ret ?_;try clear hK K)|refine catchO_ret ?_|refine catchO_exit ?_|(refine catchO_other ?_ ?_;focus decide))|((with_reducible first|apply aopsO_guard'|apply aopsDO_guard'|apply awpO_cond_g);focus (simp only [go_sem, Ty.tc, hk];exact rfl))|(with_reducible first|refine gk_tt ?_|refine gk_ff ?_|refine ck_t ?_|refine ck_f ?_)|((with_reducible first|refine gk_tf ?_|refine gk_ft ?_|refine gk_u ?_|refine gk_u' ?_);first|(intro _ e;(first|rw [qqY] at e|rw [qqZ] at e);subst e)|(intro _ _ e e';(first|rw [qqY] at e|rw [qqZ] at e);subst e;subst e'))))
      (refine retPO_1 (List.range 40) rfl ?_ (hol _); exact vwA)
    | true =>
      rw [hk, if_pos rfl] at h
      cases hi : (t.id == v) with
      | true =>
        rw [hi, if_pos rfl, Option.some.injEq, Prod.mk.injEq] at h
        obtain ⟨rfl, rfl⟩ := h
        (repeat' (first|((with_reducible refine aopsO_cons' fun C hC=>?_);simp only [go_sem, Ty.tc, hk, hi, h5, mkp];((with_reducible refine finO hC ?_);clear hC C))|((with_reducible refine aopsO_ob' fun C hC=>?_);simp only [go_sem, Ty.tc, hk, hi, h5, mkp];((with_reducible refine finOb hC ?_);clear hC C))|((with_reducible refine aopsDO_cons' fun C hC=>?_);simp only [go_sem, Ty.tc, hk, hi, h5, mkp];((with_reducible refine finDO hC ?_);clear hC C))|((with_reducible refine aopsDO_ob' ?_ fun C hC=>?_);(focus rfl);simp only [go_sem, Ty.tc, hk, hi, h5, mkp];((with_reducible refine finDOb hC ?_);clear hC C))|(with_reducible first|refine awpO_seq_k fun K hK=>?_|refine awpO_reg_k fun K hK=>?_|refine awpO_dreg_k fun K hK=>?_|(refine aopsO_nil ?_;refine hK _ _ _ ?_;try clear hK K)|(refine aopsDO_nil ?_;refine hK _ _ _ _ ?_ ?_;(focus kernel_rfl);try clear hK K)|(refine thnO_normal ?_;refine hK _ _ _ ?_;try clear hK K)|refine catchO_normal ?_|refine awpO_skip_k ?_|refine awpO_ret_k ?_|refine awpO_exit_k ?_|refine awpO_block_k ?_|(refine thnO_exit ?_;try clear hK K)|(refine thnO_ret ?_;try clear hK K)|refine catchO_ret ?_|refine catchO_exit ?_|(refine catchO_other ?_ ?_;focus decide))|((with_reducible first|apply aopsO_guard'|apply aopsDO_guard'|apply awpO_cond_g);focus (simp only [go_sem, Ty.tc, hk, hi, h5, mkp];exact rfl))|(with_reducible first|refine gk_tt ?_|refine gk_ff ?_|refine ck_t ?_|refine ck_f ?_)|((with_reducible first|refine gk_tf ?_|refine gk_ft ?_|refine gk_u ?_|refine gk_u' ?_);first|(intro _ e;(first|rw [qqY] at e|rw [qqZ] at e);subst e)|(intro _ _ e e';(first|rw [qqY] at e|rw [qqZ] at e);subst e;subst e'))))
        (refine retPO_1 (List.range 40) rfl ?_ (by have := hol V; rw [oupd_id hv] at this; exact this); exact vwA)
      | false =>
        rw [hi, if_neg (by decide)] at h
        cases hl : lk L t.id with
        | none =>
          rw [hl] at h
          simp only [Option.some.injEq, Prod.mk.injEq] at h
          obtain ⟨rfl, rfl⟩ := h
          (repeat' (first|((with_reducible refine aopsO_cons' fun C hC=>?_);simp only [go_sem, Ty.tc, hk, hi, h4, h5, h7, hsv, hm, mkp, lkm_enc, hl, Option.map_none, Option.getD_none, Option.isSome_none];((with_reducible refine finO hC ?_);clear hC C))|((with_reducible refine aopsO_ob' fun C hC=>?_);simp only [go_sem, Ty.tc, hk, hi, h4, h5, h7, hsv, hm, mkp, lkm_enc, hl, Option.map_none, Option.getD_none, Option.isSome_none];((with_reducible refine finOb hC ?_);clear hC C))|((with_reducible refine aopsDO_cons' fun C hC=>?_);simp only [go_sem, Ty.tc, hk, hi, h4, h5, h7, hsv, hm, mkp, lkm_enc, hl, Option.map_none, Option.getD_none, Option.isSome_none];((with_reducible refine finDO hC ?_);clear hC C))|((with_reducible refine aopsDO_ob' ?_ fun C hC=>?_);(focus rfl);simp only [go_sem, Ty.tc, hk, hi, h4, h5, h7, hsv, hm, mkp, lkm_enc, hl, Option.map_none, Option.getD_none, Option.isSome_none];((with_reducible refine finDOb hC ?_);clear hC C))|(with_reducible first|refine awpO_seq_k fun K hK=>?_|refine awpO_reg_k fun K hK=>?_|refine awpO_dreg_k fun K hK=>?_|(refine aopsO_nil ?_;refine hK _ _ _ ?_;try clear hK K)|(refine aopsDO_nil ?_;refine hK _ _ _ _ ?_ ?_;(focus kernel_rfl);try clear hK K)|(refine thnO_normal ?_;refine hK _ _ _ ?_;try clear hK K)|refine catchO_normal ?_|refine awpO_skip_k ?_|refine awpO_ret_k ?_|refine awpO_exit_k ?_|refine awpO_block_k ?_|(refine thnO_exit ?_;try clear hK K)|(refine thnO_ret ?_;try clear hK K)|refine catchO_ret ?_|refine catchO_exit ?_|(refine catchO_other ?_ ?_;focus decide))|((with_reducible first|apply aopsO_guard'|apply aopsDO_guard'|apply awpO_cond_g);focus (simp only [go_sem, Ty.tc, hk, hi, h4, h5, h7, hsv, hm, mkp, lkm_enc, hl, Option.map_none, Option.getD_none, Option.isSome_none];exact rfl))|(with_reducible first|refine gk_tt ?_|refine gk_ff ?_|refine ck_t ?_|refine ck_f ?_)|((with_reducible first|refine gk_tf ?_|refine gk_ft ?_|refine gk_u ?_|refine gk_u' ?_);first|(intro _ e;(first|rw [qqY] at e|rw [qqZ] at e);subst e)|(intro _ _ e e';(first|rw [qqY] at e|rw [qqZ] at e);subst e;subst e'))))
          (refine retPO_1 (List.range 40) rfl ?_ (by have := hol V; rw [oupd_id hv] at this; exact this); exact vwA)
        | some u =>
          rw [hl] at h
          cases hcv : V.contains t.id with
          | true =>
            simp only [hcv, if_true, Option.some.injEq, Prod.mk.injEq] at h
            obtain ⟨rfl, rfl⟩ := h
            (repeat' (first|((with_reducible refine aopsO_cons' fun C hC=>?_);simp only [go_sem, Ty.tc, hk, hi, h4, h5, h7, hsv, hm, hv, mkp, lkm_enc, lkm_V, hcv, hl, Option.map_some, Option.getD_some, Option.isSome_some, cells_enc, enc_eq];((with_reducible refine finO hC ?_);clear hC C))|((with_reducible refine aopsO_ob' fun C hC=>?_);simp only [go_sem, Ty.tc, hk, hi, h4, h5, h7, hsv, hm, hv, mkp, lkm_enc, lkm_V, hcv, hl, Option.map_some, Option.getD_some, Option.isSome_some, cells_enc, enc_eq];((with_reducible refine finOb hC ?_);clear hC C))|((with_reducible refine aopsDO_cons' fun C hC=>?_);simp only [go_sem, Ty.tc, hk, hi, h4, h5, h7, hsv, hm, hv, mkp, lkm_enc, lkm_V, hcv, hl, Option.map_some, Option.getD_some, Option.isSome_some, cells_enc, enc_eq];((with_reducible refine finDO hC ?_);clear hC C))|((with_reducible refine aopsDO_ob' ?_ fun C hC=>?_);(focus rfl);simp only [go_sem, Ty.tc, hk, hi, h4, h5, h7, hsv, hm, hv, mkp, lkm_enc, lkm_V, hcv, hl, Option.map_some, Option.getD_some, Option.isSome_some, cells_enc, enc_eq];((with_reducible refine finDOb hC ?_);clear hC C))|(with_reducible first|refine awpO_seq_k fun K hK=>?_|refine awpO_reg_k fun K hK=>?_|refine awpO_dreg_k fun K hK=>?_|(refine aopsO_nil ?_;refine hK _ _ _ ?_;try clear hK K)|(refine aopsDO_nil ?_;refine hK _ _ _ _ ?_ ?_;(focus kernel_rfl);try clear hK K)|(refine thnO_normal ?_;refine hK _ _ _ ?_;try clear hK K)|refine catchO_normal ?_|refine awpO_skip_k ?_|refine awpO_ret_k ?_|refine awpO_exit_k ?_|refine awpO_block_k ?_|(refine thnO_exit ?_;try clear hK K)|(refine thnO_ret ?_;try clear hK K)|refine catchO_ret ?_|refine catchO_exit ?_|(refine catchO_other ?_ ?_;focus decide))|((with_reducible first|apply aopsO_guard'|apply aopsDO_guard'|apply awpO_cond_g);focus (simp only [go_sem, Ty.tc, hk, hi, h4, h5, h7, hsv, hm, hv, mkp, lkm_enc, lkm_V, hcv, hl, Option.map_some, Option.getD_some, Option.isSome_some, cells_enc, enc_eq];exact rfl))|(with_reducible first|refine gk_tt ?_|refine gk_ff ?_|refine ck_t ?_|refine ck_f ?_)|((with_reducible first|refine gk_tf ?_|refine gk_ft ?_|refine gk_u ?_|refine gk_u' ?_);first|(intro _ e;(first|rw [qqY] at e|rw [qqZ] at e);subst e)|(intro _ _ e e';(first|rw [qqY] at e|rw [qqZ] at e);subst e;subst e'))))
            (refine retPO_1 (List.range 40) rfl ?_ (by have := hol V; rw [oupd_id hv] at this; exact this); exact vwA)
          | false =>
            simp only [hcv, Bool.false_eq_true, if_false] at h
            have hc := ih u (V ++ [t.id]) (oupd O4 vm (.mp (encV (V ++ [t.id])))) b V' ⟨by rw [oupd_ne _ _ ns]; exact hs, by rw [oupd_ne _ _ (Ne.symm hne)]; exact hm⟩ (oupd_same _ _ _) h
            rw [oupd_oupd] at hc
            have g4 : oupd O4 vm (.mp (encV (V ++ [t.id]))) k4 = some (.cells 56 [pS s]) := by rw [oupd_ne _ _ n4]; exact h4
            have g5 : oupd O4 vm (.mp (encV (V ++ [t.id]))) k5 = some (.cells 3 [ii v]) := by rw [oupd_ne _ _ n5]; exact h5
            have g7 : oupd O4 vm (.mp (encV (V ++ [t.id]))) k7 = some (.cells 107 [pM vm]) := by rw [oupd_ne _ _ n7]; exact h7
            (repeat' (first|(refine aopsO_mupd (ii 1) rfl rfl hv (.pv _) fun fr' e=>?_;(first|rw [qqY] at e|rw [qqZ] at e);subst e;simp only [mins_V _ _ hcv])|((with_reducible refine aopsO_call0 (hc) ?_ ?_ ?_);(focus (simp only [go_sem, Ty.tc, hk, hi, h4, h5, h7, hsv, hm, hv, mkp, lkm_enc, lkm_V, hcv, hl, Option.map_some, Option.getD_some, Option.isSome_some, Option.getD_none, cells_enc, enc_eq, g4, g5, g7];done));(focus (simp only [go_sem, Ty.tc, hk, hi, h4, h5, h7, hsv, hm, hv, mkp, lkm_enc, lkm_V, hcv, hl, Option.map_some, Option.getD_some, Option.isSome_some, Option.getD_none, cells_enc, enc_eq, g4, g5, g7];done));rintro _ _ _ ⟨rfl, e2⟩ e;(replace e2 := Eq.symm e2;subst e2);(first|rw [qqY] at e|rw [qqZ] at e);subst e)|((with_reducible refine aopsDO_call0 (hc) ?_ ?_ ?_);(focus (simp only [go_sem, Ty.tc, hk, hi, h4, h5, h7, hsv, hm, hv, mkp, lkm_enc, lkm_V, hcv, hl, Option.map_some, Option.getD_some, Option.isSome_some, Option.getD_none, cells_enc, enc_eq, g4, g5, g7];done));(focus (simp only [go_sem, Ty.tc, hk, hi, h4, h5, h7, hsv, hm, hv, mkp, lkm_enc, lkm_V, hcv, hl, Option.map_some, Option.getD_some, Option.isSome_some, Option.getD_none, cells_enc, enc_eq, g4, g5, g7];done));intro _ _ e e';(first|rw [qqY] at e|rw [qqZ] at e);subst e;subst e')|((with_reducible refine aopsO_callX (hc) ?_ ?_ ?_);(focus (simp only [go_sem, Ty.tc, hk, hi, h4, h5, h7, hsv, hm, hv, mkp, lkm_enc, lkm_V, hcv, hl, Option.map_some, Option.getD_some, Option.isSome_some, Option.getD_none, cells_enc, enc_eq, g4, g5, g7];done));(focus (simp only [go_sem, Ty.tc, hk, hi, h4, h5, h7, hsv, hm, hv, mkp, lkm_enc, lkm_V, hcv, hl, Option.map_some, Option.getD_some, Option.isSome_some, Option.getD_none, cells_enc, enc_eq, g4, g5, g7];done));rintro _ _ _ ⟨rfl, e2⟩ e;(replace e2 := Eq.symm e2;subst e2);(first|rw [qqY] at e|rw [qqZ] at e);subst e)|((with_reducible refine aopsO_cons' fun C hC=>?_);simp only [go_sem, Ty.tc, hk, hi, h4, h5, h7, hsv, hm, hv, mkp, lkm_enc, lkm_V, hcv, hl, Option.map_some, Option.getD_some, Option.isSome_some, Option.getD_none, cells_enc, enc_eq, g4, g5, g7];((with_reducible refine finO hC ?_);clear hC C))|((with_reducible refine aopsO_ob' fun C hC=>?_);simp only [go_sem, Ty.tc, hk, hi, h4, h5, h7, hsv, hm, hv, mkp, lkm_enc, lkm_V, hcv, hl, Option.map_some, Option.getD_some, Option.isSome_some, Option.getD_none, cells_enc, enc_eq, g4, g5, g7];((with_reducible refine finOb hC ?_);clear hC C))|((with_reducible refine aopsDO_cons' fun C hC=>?_);simp only [go_sem, Ty.tc, hk, hi, h4, h5, h7, hsv, hm, hv, mkp, lkm_enc, lkm_V, hcv, hl, Option.map_some, Option.getD_some, Option.isSome_some, Option.getD_none, cells_enc, enc_eq, g4, g5, g7];((with_reducible refine finDO hC ?_);clear hC C))|((with_reducible refine aopsDO_ob' ?_ fun C hC=>?_);(focus rfl);simp only [go_sem, Ty.tc, hk, hi, h4, h5, h7, hsv, hm, hv, mkp, lkm_enc, lkm_V, hcv, hl, Option.map_some, Option.getD_some, Option.isSome_some, Option.getD_none, cells_enc, enc_eq, g4, g5, g7];((with_reducible refine finDOb hC ?_);clear hC C))|(with_reducible first|refine awpO_seq_k fun K hK=>?_|refine awpO_reg_k fun K hK=>?_|refine awpO_dreg_k fun K hK=>?_|(refine aopsO_nil ?_;refine hK _ _ _ ?_;try clear hK K)|(refine aopsDO_nil ?_;refine hK _ _ _ _ ?_ ?_;(focus kernel_rfl);try clear hK K)|(refine thnO_normal ?_;refine hK _ _ _ ?_;try clear hK K)|refine catchO_normal ?_|refine awpO_skip_k ?_|refine awpO_ret_k ?_|refine awpO_exit_k ?_|refine awpO_block_k ?_|(refine thnO_exit ?_;try clear hK K)|(refine thnO_ret ?_;try clear hK K)|refine catchO_ret ?_|refine catchO_exit ?_|(refine catchO_other ?_ ?_;focus decide))|((with_reducible first|apply aopsO_guard'|apply aopsDO_guard'|apply awpO_cond_g);focus (simp only [go_sem, Ty.tc, hk, hi, h4, h5, h7, hsv, hm, hv, mkp, lkm_enc, lkm_V, hcv, hl, Option.map_some, Option.getD_some, Option.isSome_some, Option.getD_none, cells_enc, enc_eq, g4, g5, g7];exact rfl))|(with_reducible first|refine gk_tt ?_|refine gk_ff ?_|refine ck_t ?_|refine ck_f ?_)|((with_reducible first|refine gk_tf ?_|refine gk_ft ?_|refine gk_u ?_|refine gk_u' ?_);first|(intro _ e;(first|rw [qqY] at e|rw [qqZ] at e);subst e)|(intro _ _ e e';(first|rw [qqY] at e|rw [qqZ] at e);subst e;subst e'))))
            (refine retPO_1 (List.range 40) rfl ?_ (hol _); exact vwA)
theorem OLe_upd2 {O : OS} {k m : Nat} {x y : OB} (h : O k = none) : OLe (oupd (oupd O k x) m y) (oupd O m y) := by
  intro j z e
  by_cases hj : j = m
  · subst hj; rw [oupd_same] at e ⊢; exact e
  · rw [oupd_ne _ _ hj] at e ⊢; exact oupd_keep h e
/-- bind's answer and the bindings behind it -/
def bindN (n : Nat) (L : SB) (v : Int) (t : Ty) : Option (Bool × SB) := match ocN n L v t [] with
  | none => none
  | some (true, _) => some (false, L)
  | some (false, _) => some (true, insB L v t)
set_option maxHeartbeats 4000000 in
theorem bind_ok {s m : Nat} {p : Int} {L L' : SB} {v : Int} {t : Ty} {O : OS} {n : Nat} {b : Bool} (hS : SolO O s m p L) (h : bindN n L v t = some (b, L')) :
    OCall Try.prog 73 [pS s, ii v, t.enc] O (OIs (bb b) (oupd O m (.mp (encM L')))) := by
  refine OCall.intro fn73 (by simp) ?_
  unfold ac73
  simp only [argFr]
  simp only [bindN] at h
  have hst : ∀ k, O k = none → k ≠ m := fun k hk e => by rw [e, hS.2] at hk; cases hk
  split at h
  · cases h
  · rename_i V' ho
    simp only [Option.some.injEq, Prod.mk.injEq] at h
    obtain ⟨rfl, rfl⟩ := h
    refine awpO_seq_k fun K hK => ?_
    refine awpO_reg_k fun K hK => ?_
    (repeat' (first|(refine aopsO_mkmapO fun km fm=>?_)|((with_reducible refine aopsO_cons' fun C hC=>?_);simp only [go_sem, cells_enc, pcells_enc, enc_eq, Ty.tc];((with_reducible refine finO hC ?_);clear hC C))|((with_reducible refine aopsO_ob' fun C hC=>?_);simp only [go_sem, cells_enc, pcells_enc, enc_eq, Ty.tc];((with_reducible refine finOb hC ?_);clear hC C))|((with_reducible refine aopsDO_cons' fun C hC=>?_);simp only [go_sem, cells_enc, pcells_enc, enc_eq, Ty.tc];((with_reducible refine finDO hC ?_);clear hC C))|((with_reducible refine aopsDO_ob' ?_ fun C hC=>?_);(focus rfl);simp only [go_sem, cells_enc, pcells_enc, enc_eq, Ty.tc];((with_reducible refine finDOb hC ?_);clear hC C))|(with_reducible first|refine awpO_seq_k fun K hK=>?_|refine awpO_reg_k fun K hK=>?_|refine awpO_dreg_k fun K hK=>?_|(refine aopsO_nil ?_;refine hK _ _ _ ?_;try clear hK K)|(refine aopsDO_nil ?_;refine hK _ _ _ _ ?_ ?_;(focus kernel_rfl);try clear hK K)|(refine thnO_normal ?_;refine hK _ _ _ ?_;try clear hK K)|refine catchO_normal ?_|refine awpO_skip_k ?_|refine awpO_ret_k ?_|refine awpO_exit_k ?_|refine awpO_block_k ?_|(refine thnO_exit ?_;try clear hK K)|(refine thnO_ret ?_;try clear hK K)|refine catchO_ret ?_|refine catchO_exit ?_|(refine catchO_other ?_ ?_;focus decide))|((with_reducible first|apply aopsO_guard'|apply aopsDO_guard'|apply awpO_cond_g);focus (simp only [go_sem, cells_enc, pcells_enc, enc_eq, Ty.tc];exact rfl))|(with_reducible first|refine gk_tt ?_|refine gk_ff ?_|refine ck_t ?_|refine ck_f ?_)|((with_reducible first|refine gk_tf ?_|refine gk_ft ?_|refine gk_u ?_|refine gk_u' ?_);first|(intro _ e;(first|rw [qqY] at e|rw [qqZ] at e);subst e)|(intro _ _ e e';(first|rw [qqY] at e|rw [qqZ] at e);subst e;subst e'))))
    have hc := occ_ok (hst km fm) n t [] (oupd O km (.mp [])) true V' ⟨oupd_keep fm hS.1, oupd_keep fm hS.2⟩ (oupd_same _ _ _) ho
    rw [oupd_oupd] at hc
    (repeat' (first|((with_reducible refine aopsO_call0 (hc) ?_ ?_ ?_);(focus (simp only [go_sem, cells_enc, pcells_enc, enc_eq, Ty.tc];done));(focus (simp only [go_sem, cells_enc, pcells_enc, enc_eq, Ty.tc];done));rintro _ _ _ ⟨rfl, e2⟩ e;(replace e2 := Eq.symm e2;subst e2);(first|rw [qqY] at e|rw [qqZ] at e);subst e)|((with_reducible refine aopsDO_call0 (hc) ?_ ?_ ?_);(focus (simp only [go_sem, cells_enc, pcells_enc, enc_eq, Ty.tc];done));(focus (simp only [go_sem, cells_enc, pcells_enc, enc_eq, Ty.tc];done));intro _ _ e e';(first|rw [qqY] at e|rw [qqZ] at e);subst e;subst e')|((with_reducible refine aopsO_callX (hc) ?_ ?_ ?_);(focus (simp only [go_sem, cells_enc, pcells_enc, enc_eq, Ty.tc];done));(focus (simp only [go_sem, cells_enc, pcells_enc, enc_eq, Ty.tc];done));rintro _ _ _ ⟨rfl, e2⟩ e;(replace e2 := Eq.symm e2;subst e2);(first|rw [qqY] at e|rw [qqZ] at e);subst e)|((with_reducible refine aopsO_cons' fun C hC=>?_);simp only [go_sem, cells_enc, pcells_enc, enc_eq, Ty.tc];((with_reducible refine finO hC ?_);clear hC C))|((with_reducible refine aopsO_ob' fun C hC=>?_);simp only [go_sem, cells_enc, pcells_enc, enc_eq, Ty.tc];((with_reducible refine finOb hC ?_);clear hC C))|((with_reducible refine aopsDO_cons' fun C hC=>?_);simp only [go_sem, cells_enc, pcells_enc, enc_eq, Ty.tc];((with_reducible refine finDO hC ?_);clear hC C))|((with_reducible refine aopsDO_ob' ?_ fun C hC=>?_);(focus rfl);simp only [go_sem, cells_enc, pcells_enc, enc_eq, Ty.tc];((with_reducible refine finDOb hC ?_);clear hC C))|(with_reducible first|refine awpO_seq_k fun K hK=>?_|refine awpO_reg_k fun K hK=>?_|refine awpO_dreg_k fun K hK=>?_|(refine aopsO_nil ?_;refine hK _ _ _ ?_;try clear hK K)|(refine aopsDO_nil ?_;refine hK _ _ _ _ ?_ ?_;(focus kernel_rfl);try clear hK K)|(refine thnO_normal ?_;refine hK _ _ _ ?_;try clear hK K)|refine catchO_normal ?_|refine awpO_skip_k ?_|refine awpO_ret_k ?_|refine awpO_exit_k ?_|refine awpO_block_k ?_|(refine thnO_exit ?_;try clear hK K)|(refine thnO_ret ?_;try clear hK K)|refine catchO_ret ?_|refine catchO_exit ?_|(refine catchO_other ?_ ?_;focus decide))|((with_reducible first|apply aopsO_guard'|apply aopsDO_guard'|apply awpO_cond_g);focus (simp only [go_sem, cells_enc, pcells_enc, enc_eq, Ty.tc];exact rfl))|(with_reducible first|refine gk_tt ?_|refine gk_ff ?_|refine ck_t ?_|refine ck_f ?_)|((with_reducible first|refine gk_tf ?_|refine gk_ft ?_|refine gk_u ?_|refine gk_u' ?_);first|(intro _ e;(first|rw [qqY] at e|rw [qqZ] at e);subst e)|(intro _ _ e e';(first|rw [qqY] at e|rw [qqZ] at e);subst e;subst e'))))
    (refine retPO_1 (List.range 40) rfl ?_ (by rw [oupd_id hS.2]; exact OLe.fresh fm); exact vwA)
  · rename_i V' ho
    simp only [Option.some.injEq, Prod.mk.injEq] at h
    obtain ⟨rfl, rfl⟩ := h
    (repeat' (first|(refine aopsO_mkmapO fun km fm=>?_)|((with_reducible refine aopsO_cons' fun C hC=>?_);simp only [go_sem, cells_enc, pcells_enc, enc_eq, Ty.tc];((with_reducible refine finO hC ?_);clear hC C))|((with_reducible refine aopsO_ob' fun C hC=>?_);simp only [go_sem, cells_enc, pcells_enc, enc_eq, Ty.tc];((with_reducible refine finOb hC ?_);clear hC C))|((with_reducible refine aopsDO_cons' fun C hC=>?_);simp only [go_sem, cells_enc, pcells_enc, enc_eq, Ty.tc];((with_reducible refine finDO hC ?_);clear hC C))|((with_reducible refine aopsDO_ob' ?_ fun C hC=>?_);(focus rfl);simp only [go_sem, cells_enc, pcells_enc, enc_eq, Ty.tc];((with_reducible refine finDOb hC ?_);clear hC C))|(with_reducible first|refine awpO_seq_k fun K hK=>?_|refine awpO_reg_k fun K hK=>?_|refine awpO_dreg_k fun K hK=>?_|(refine aopsO_nil ?_;refine hK _ _ _ ?_;try clear hK K)|(refine aopsDO_nil ?_;refine hK _ _ _ _ ?_ ?_;(focus kernel_rfl);try clear hK K)|(refine thnO_normal ?_;refine hK _ _ _ ?_;try clear hK K)|refine catchO_normal ?_|refine awpO_skip_k ?_|refine awpO_ret_k ?_|refine awpO_exit_k ?_|refine awpO_block_k ?_|(refine thnO_exit ?_;try clear hK K)|(refine thnO_ret ?_;try clear hK K)|refine catchO_ret ?_|refine catchO_exit ?_|(refine catchO_other ?_ ?_;focus decide))|((with_reducible first|apply aopsO_guard'|apply aopsDO_guard'|apply awpO_cond_g);focus (simp only [go_sem, cells_enc, pcells_enc, enc_eq, Ty.tc];exact rfl))|(with_reducible first|refine gk_tt ?_|refine gk_ff ?_|refine ck_t ?_|refine ck_f ?_)|((with_reducible first|refine gk_tf ?_|refine gk_ft ?_|refine gk_u ?_|refine gk_u' ?_);first|(intro _ e;(first|rw [qqY] at e|rw [qqZ] at e);subst e)|(intro _ _ e e';(first|rw [qqY] at e|rw [qqZ] at e);subst e;subst e'))))
    have hc := occ_ok (hst km fm) n t [] (oupd O km (.mp [])) false V' ⟨oupd_keep fm hS.1, oupd_keep fm hS.2⟩ (oupd_same _ _ _) ho
    rw [oupd_oupd] at hc
    have g1 : oupd O km (.mp (encV V')) s = some (.cells 60 [pM m, ii p]) := oupd_keep fm hS.1
    have g2 : oupd O km (.mp (encV V')) m = some (.mp (encM L)) := oupd_keep fm hS.2
    (repeat' (first|(refine aopsDO_mupd t.enc rfl rfl g2 (Vw_enc t) fun fr' tr' e e'=>?_;(first|rw [qqY] at e|rw [qqZ] at e);subst e;subst e')|((with_reducible refine aopsO_call0 (hc) ?_ ?_ ?_);(focus (simp only [go_sem, cells_enc, pcells_enc, enc_eq, Ty.tc, g1];done));(focus (simp only [go_sem, cells_enc, pcells_enc, enc_eq, Ty.tc, g1];done));rintro _ _ _ ⟨rfl, e2⟩ e;(replace e2 := Eq.symm e2;subst e2);(first|rw [qqY] at e|rw [qqZ] at e);subst e)|((with_reducible refine aopsDO_call0 (hc) ?_ ?_ ?_);(focus (simp only [go_sem, cells_enc, pcells_enc, enc_eq, Ty.tc, g1];done));(focus (simp only [go_sem, cells_enc, pcells_enc, enc_eq, Ty.tc, g1];done));intro _ _ e e';(first|rw [qqY] at e|rw [qqZ] at e);subst e;subst e')|((with_reducible refine aopsO_callX (hc) ?_ ?_ ?_);(focus (simp only [go_sem, cells_enc, pcells_enc, enc_eq, Ty.tc, g1];done));(focus (simp only [go_sem, cells_enc, pcells_enc, enc_eq, Ty.tc, g1];done));rintro _ _ _ ⟨rfl, e2⟩ e;(replace e2 := Eq.symm e2;subst e2);(first|rw [qqY] at e|rw [qqZ] at e);subst e)|((with_reducible refine aopsO_cons' fun C hC=>?_);simp only [go_sem, cells_enc, pcells_enc, enc_eq, Ty.tc, g1];((with_reducible refine finO hC ?_);clear hC C))|((with_reducible refine aopsO_ob' fun C hC=>?_);simp only [go_sem, cells_enc, pcells_enc, enc_eq, Ty.tc, g1];((with_reducible refine finOb hC ?_);clear hC C))|((with_reducible refine aopsDO_cons' fun C hC=>?_);simp only [go_sem, cells_enc, pcells_enc, enc_eq, Ty.tc, g1];((with_reducible refine finDO hC ?_);clear hC C))|((with_reducible refine aopsDO_ob' ?_ fun C hC=>?_);(focus rfl);simp only [go_sem, cells_enc, pcells_enc, enc_eq, Ty.tc, g1];((with_reducible refine finDOb hC ?_);clear hC C))|(with_reducible first|refine awpO_seq_k fun K hK=>?_|refine awpO_reg_k fun K hK=>?_|refine awpO_dreg_k fun K hK=>?_|(refine aopsO_nil ?_;refine hK _ _ _ ?_;try clear hK K)|(refine aopsDO_nil ?_;refine hK _ _ _ _ ?_ ?_;(focus kernel_rfl);try clear hK K)|(refine thnO_normal ?_;refine hK _ _ _ ?_;try clear hK K)|refine catchO_normal ?_|refine awpO_skip_k ?_|refine awpO_ret_k ?_|refine awpO_exit_k ?_|refine awpO_block_k ?_|(refine thnO_exit ?_;try clear hK K)|(refine thnO_ret ?_;try clear hK K)|refine catchO_ret ?_|refine catchO_exit ?_|(refine catchO_other ?_ ?_;focus decide))|((with_reducible first|apply aopsO_guard'|apply aopsDO_guard'|apply awpO_cond_g);focus (simp only [go_sem, cells_enc, pcells_enc, enc_eq, Ty.tc, g1];exact rfl))|(with_reducible first|refine gk_tt ?_|refine gk_ff ?_|refine ck_t ?_|refine ck_f ?_)|((with_reducible first|refine gk_tf ?_|refine gk_ft ?_|refine gk_u ?_|refine gk_u' ?_);first|(intro _ e;(first|rw [qqY] at e|rw [qqZ] at e);subst e)|(intro _ _ e e';(first|rw [qqY] at e|rw [qqZ] at e);subst e;subst e'))))
    rw [mins_enc]
    (refine retPO_1 (List.range 40) rfl ?_ (OLe_upd2 fm); exact vwA)
end Go.Proofs.Ytiediojibljpiaa
