/- X2: joined from S5 HJ S3 S6 S7. -/
import Derived.Test.YtbdoblgofddhdaaFnR
import Derived.Test.YtbdoblgofddhdaaX1
/- Types: FreeVars. -/
set_option maxRecDepth 10000
set_option linter.unusedSimpArgs false
set_option linter.unusedVariables false
namespace Go.Proofs.Ytbdoblgofddhdaa
open Go Go.Ab
mutual
def afv : Ty → List Int → List Int
  | .mk k id ss, xs => afvL ss (if (if k == 1 then !(xs.any fun x => id == x) else false) then xs ++ [id] else xs)
def afvL : List Ty → List Int → List Int
  | [], xs => xs
  | t :: ts, xs => afvL ts (afv t xs)
end
mutual
theorem afv_mono : ∀ (t : Ty) (xs : List Int), xs.length ≤ (afv t xs).length
  | .mk k id ss, xs => by
    simp only [afv]
    refine Nat.le_trans ?_ (afvL_mono ss _)
    by_cases h : (if k == 1 then !(xs.any fun x => id == x) else false) = true
    · rw [if_pos h]; simp
    · rw [if_neg h]; exact Nat.le_refl _
theorem afvL_mono : ∀ (ts : List Ty) (xs : List Int), xs.length ≤ (afvL ts xs).length
  | [], xs => Nat.le_refl _
  | t :: ts, xs => Nat.le_trans (afv_mono t xs) (afvL_mono ts _)
end
theorem ok_memL : ∀ {ss : List Ty} {t : Ty}, PV.okL (encL ss) → t ∈ ss → t.enc.ok
  | [], _, _, h => by cases h
  | s :: ss, t, hok, h => by
    simp only [encL, PV.okL] at hok
    rcases List.mem_cons.1 h with rfl | h
    · exact hok.1
    · exact ok_memL hok.2 h
theorem ok_mem {k id : Int} {ss : List Ty} {t : Ty} (hok : (Ty.mk k id ss).enc.ok) (h : t ∈ ss) : t.enc.ok := by
  simp only [Ty.enc, PV.ok, PV.okL] at hok
  exact ok_memL hok.2.2.1.2 h
def cI (x : Int) : List V := [.pv (ii x)]
abbrev rowI (xs : List Int) : Blk := ⟨false, 3, 1, xs.map cI, none⟩
theorem VwE_ii {h : HF} {B : List Nat} : ∀ (xs : List Int), VwE h B 1 (xs.map cI) (encI xs)
  | [] => .nil _
  | x :: xs => .cons _ _ _ _ _ rfl (.cons _ _ _ _ (.pv _) .nil) (VwE_ii xs)
theorem row_ii {h : HF} {B : List Nat} {b : Nat} {fl ro : Bool} {ty : Nat} {xs : List Int} {tg : Option (Nat × Nat × Nat)} (hb : b ∈ B) (hk : h b = some ⟨ro, ty, 1, xs.map cI, tg⟩) : Vw h B (.row b xs.length fl) (.list 1 (encI xs)) :=
  row_view hb hk (by simp) (VwE_ii xs)
theorem renL_cI {ρ : Nat → Nat} (xs : List Int) : (xs.map cI).map (V.renL ρ) = xs.map cI := by
  rw [List.map_map]; exact List.map_congr_left fun p _ => rfl
theorem allL_cI {S : Nat → Prop} (xs : List Int) : allL S (xs.map cI) = True := by
  simp only [allL_iff, eq_iff_iff, iff_true]
  intro cs hcs
  obtain ⟨p, _, rfl⟩ := List.mem_map.1 hcs
  simp [cI, V.bdL, V.bd]
theorem renL_cI1 {ρ : Nat → Nat} (x : Int) : V.renL ρ (cI x) = cI x := rfl
theorem bdL_cI1 {S : Nat → Prop} (x : Int) : V.bdL S (cI x) = True := by simp [cI, V.bdL, V.bd]
theorem bd_cI {S : Nat → Prop} {xs : List Int} : ∀ cs ∈ xs.map cI, V.bdL S cs := by
  intro cs hcs
  obtain ⟨p, _, rfl⟩ := List.mem_map.1 hcs
  simp [cI, V.bdL, V.bd]
theorem HpOk_nil : HpOk [] := ⟨fun b k e => by simp [hget] at e, fun b k e => by simp [hget] at e⟩
theorem HpOk_row (xs : List Int) : HpOk [some (rowI xs)] := by
  refine ⟨fun b k e => ?_, fun b k e => ?_⟩ <;> (cases b with
    | zero => simp only [hget, List.getElem?_cons_zero, Option.join_some, Option.some.injEq] at e; subst e; first | rfl | exact bd_cI
    | succ b => simp [hget] at e)
theorem HpOk_row1 (xs : List Int) : HpOk [none, some (rowI xs)] := by
  refine ⟨fun b k e => ?_, fun b k e => ?_⟩ <;> (match b, e with
    | 0, e => simp [hget] at e
    | 1, e => simp only [hget, List.getElem?_cons_zero, List.getElem?_cons_succ, Option.join_some, Option.some.injEq] at e; subst e; first | rfl | exact bd_cI
    | b + 2, e => simp [hget] at e)
theorem LV_one (xs : List Int) : ∀ b, b < [some (rowI xs)].length → LV [some (rowI xs)] b := fun b hb => by
  have : b = 0 := by simpa using hb
  subst this; exact ⟨_, rfl⟩
/-- rows as a callee sees them -/
theorem hh_row {h : HF} {ρ : List Nat} {nb : Nat} {xs : List Int} {tg : Option (Nat × Nat × Nat)} (e : h (rho ρ nb 0) = some ⟨false, 3, 1, xs.map cI, tg⟩) :
    ∀ i k, hget [some (rowI xs)] i = some k → ∃ k', h (rho ρ nb i) = some k' ∧ BlkWk (rho ρ nb) k' k := fun i k ek => by
  cases i with
  | zero =>
    simp only [hget, List.getElem?_cons_zero, Option.join_some, Option.some.injEq] at ek
    subst ek
    exact ⟨_, e, .of (k := rowI xs) (by rw [renL_cI]; exact WkX.refl _)⟩
  | succ i => simp [hget] at ek
theorem hh_nil {h : HF} {ρ : List Nat} {nb : Nat} : ∀ i k, hget [] i = some k → ∃ k', h (rho ρ nb i) = some k' ∧ BlkWk (rho ρ nb) k' k := fun i k ek => by simp [hget] at ek
theorem rho0 {b : Nat} {ρ : List Nat} {nb : Nat} : rho (b :: ρ) nb 0 = b := rfl
theorem rho1 {nb b : Nat} : rho [b] nb 1 = nb := rfl
theorem rhoN {nb : Nat} : rho [] nb 0 = nb := rfl
theorem tag0 {m : Nat → Nat × Nat × Nat} {F : List Int} : tagN m 1 0 [none, some (rowI F)] = [none, some (rowI F)] := rfl
def outV : List Int → V
  | [] => .pv (.lit (.slice none 0 0))
  | x :: xs => .row 0 (x :: xs).length false
def outH : List Int → Hp
  | [] => []
  | x :: xs => [some (rowI (x :: xs))]
theorem ret_row {rs : List RV} {F : List Int} {m : Nat → Nat × Nat × Nat} {fr : Fr} {T : Blk} (hr : resVs fr [some T, some (rowI F)] rs = some [.row 1 F.length false]) (hne : F ≠ []) : retM rs (outV F) 0 (outH F) m .ret fr [some T, some (rowI F)] := by
  cases F with
  | nil => exact absurd rfl hne
  | cons x xs =>
    refine ⟨_, hr, fun b => [1].getD b 0, ?_⟩
    simp only [outV, outH, tagN, Option.map_some, Nat.lt_irrefl, if_false]
    exact (LeB [1] (by refine ⟨?_, ?_, ?_⟩ <;> simp only [leFr, leFb, leHp, V.ren, V.renL, V.bd, V.bdL, allL, lt, Go.Ab.get, hget, List.map_cons, List.map_nil, List.length_cons, List.length_nil, List.length_append, List.getElem?_cons_zero, List.getElem?_cons_succ, List.getElem?_nil, Option.join_some, Option.join_none, List.getD_cons_zero, List.getD_cons_succ, List.getD_nil, Nat.reduceAdd, Nat.reduceLT, Nat.reduceEqDiff, Nat.zero_add, reduceIte, if_true, if_false, and_true, true_and, renL_vcells, allL_vcells, renL_pv, leBlk_some, eq_self, true_or, or_true, reduceCtorEq, false_or, renL_cI, renL_cI1, allL_cI, bdL_cI1, allL_app, List.map_cons, allL, oneW]))
theorem ret_nil {rs : List RV} {m : Nat → Nat × Nat × Nat} {fr : Fr} {H : Hp} (hr : resVs fr H rs = some [.pv (.lit (.slice none 0 0))]) : retM rs (outV []) 0 (outH []) m .ret fr H := by
  refine ⟨_, hr, fun b => [].getD b 0, ?_⟩
  simp only [outV, outH, tagN]
  exact (LeB [] (by refine ⟨?_, ?_, ?_⟩ <;> simp only [leFr, leFb, leHp, V.ren, V.renL, V.bd, V.bdL, allL, lt, Go.Ab.get, hget, List.map_cons, List.map_nil, List.length_cons, List.length_nil, List.length_append, List.getElem?_cons_zero, List.getElem?_cons_succ, List.getElem?_nil, Option.join_some, Option.join_none, List.getD_cons_zero, List.getD_cons_succ, List.getD_nil, Nat.reduceAdd, Nat.reduceLT, Nat.reduceEqDiff, Nat.zero_add, reduceIte, if_true, if_false, and_true, true_and, renL_vcells, allL_vcells, renL_pv, leBlk_some, eq_self, true_or, or_true, reduceCtorEq, false_or, oneW]))
def fvs (t : Ty) : List Int := afv t []
end Go.Proofs.Ytbdoblgofddhdaa
/- Lists of numbers searched. -/
set_option maxRecDepth 10000
set_option linter.unusedSimpArgs false
set_option linter.unusedVariables false
namespace Go.Proofs.Ytbdoblgofddhdaa
open Go Go.Ab
set_option maxHeartbeats 1000000 in
theorem idxJ_ok (fid : FuncId) (caps : List PV) (p : Int → Bool) (ts : List Int) (hp : ∀ t ∈ ts, PCall Try.prog fid ([ii t] ++ caps) (bb (p t))) : PCall Try.prog 158 [.list 1 (encI ts), .fn fid caps] (ii (idxF p ts 0)) := by
  refine PCall.intro' (ps := [ii (idxF p ts 0)]) fn158 (by simp) fun hok => ?_
  have hss : ts.length ≤ 1099511627776 := by
    simp only [PV.okL, PV.ok, encI_len, big] at hok; exact hok.1.1
  clear hok
  unfold ac158
  simp only [argFr]
  (repeat' (first | ((with_reducible first | refine aops_cons' fun C hC => ?_ | refine aopsD_cons' fun C hC => ?_ | intro C hC); simp only [go_sem, encI_len]; ((with_reducible first | refine finA hC ?_ | refine finD hC ?_); clear hC C)) | (with_reducible first | refine awp_seq_k fun K hK => ?_ | refine awp_reg_k fun K hK => ?_ | refine awp_dreg_k fun K hK => ?_ | (refine aops_nil ?_; refine hK _ _ ?_; try clear hK K) | (refine aopsD_nil ?_; refine hK _ _ _ ?_ ?_; (focus kernel_rfl); try clear hK K) | (refine thn_normal ?_; refine hK _ _ ?_; try clear hK K) | refine catch_normal ?_ | refine awp_skip_k ?_ | refine awp_ret_k ?_ | refine awp_exit_k ?_ | refine awp_block_k ?_ | (refine thn_exit ?_; try clear hK K) | (refine thn_ret ?_; try clear hK K) | refine catch_ret ?_ | refine catch_exit ?_ | (refine catch_other ?_ ?_; focus decide)) | ((with_reducible first | apply aops_guard' | apply aopsD_guard' | apply awp_cond_g); focus (simp only [go_sem, encI_len]; exact rfl)) | (with_reducible first | refine gk_tt ?_ | refine gk_ff ?_ | refine ck_t ?_ | refine ck_f ?_) | ((with_reducible first | refine gk_tf ?_ | refine gk_ft ?_ | refine gk_u ?_ | refine gk_u' ?_); first | (intro _ e; (first | rw [put_some] at e | rw [put_none] at e); subst e) | (intro _ _ e e'; (first | rw [put_some] at e | rw [put_none] at e); subst e; subst e'))))
  have rows : ∀ (rest pre : List Int), pre ++ rest = ts → idxF p ts 0 = idxF p rest pre.length → loopN (awp Try.prog ac158_l0) (catch_ 0 (thn K (retP [RV.tmp 4] [ii (idxF p ts 0)]))) (rest.length + 1)
     [(8, .pv (ii pre.length)), (7, .pv (ii ts.length)), (1, .pv (.fn fid caps)), (0, .pv (.list 1 (encI ts)))] [] := by
    intro rest
    induction rest with
    | nil =>
      intro pre hpre hi
      have hpre : pre = ts := by simpa using hpre
      subst hpre
      refine loopN_k fun K1 hK1 => ?_
      unfold ac158_l0
      (repeat' (first | ((with_reducible first | refine aops_cons' fun C hC => ?_ | refine aopsD_cons' fun C hC => ?_ | intro C hC); simp only [go_sem, lt_end]; ((with_reducible first | refine finA hC ?_ | refine finD hC ?_); clear hC C)) | (with_reducible first | refine awp_seq_k fun K hK => ?_ | refine awp_reg_k fun K hK => ?_ | refine awp_dreg_k fun K hK => ?_ | (refine aops_nil ?_; refine hK _ _ ?_; try clear hK K) | (refine aopsD_nil ?_; refine hK _ _ _ ?_ ?_; (focus kernel_rfl); try clear hK K) | (refine thn_normal ?_; refine hK _ _ ?_; try clear hK K) | refine catch_normal ?_ | refine awp_skip_k ?_ | refine awp_ret_k ?_ | refine awp_exit_k ?_ | refine awp_block_k ?_ | (refine thn_exit ?_; try clear hK K) | (refine thn_ret ?_; try clear hK K) | refine catch_ret ?_ | refine catch_exit ?_ | (refine catch_other ?_ ?_; focus decide)) | ((with_reducible first | apply aops_guard' | apply aopsD_guard' | apply awp_cond_g); focus (simp only [go_sem, lt_end]; exact rfl)) | (with_reducible first | refine gk_tt ?_ | refine gk_ff ?_ | refine ck_t ?_ | refine ck_f ?_) | ((with_reducible first | refine gk_tf ?_ | refine gk_ft ?_ | refine gk_u ?_ | refine gk_u' ?_); first | (intro _ e; (first | rw [put_some] at e | rw [put_none] at e); subst e) | (intro _ _ e e'; (first | rw [put_some] at e | rw [put_none] at e); subst e; subst e'))))
      rw [hi]
      (refine retP_ret (List.range 40) rfl ?_; (try simp only [idxF, if_true, if_false, Bool.false_eq_true, Bool.not_true, Bool.not_false]); exact vwA)
    | cons t rest ih =>
      intro pre hpre hi
      have hlt : decide ((pre.length : Int) < (ts.length : Int)) = true := by subst hpre; exact lt_app _ _ _
      have hat : (encI ts)[pre.length]? = some (ii t) := by subst hpre; exact encI_at _ _ _
      have hb : pre.length + 1 ≤ big := by have := congrArg List.length hpre; simp at this; unfold big; omega
      have hc := hp t (by subst hpre; simp)
      refine loopN_k fun K1 hK1 => ?_
      unfold ac158_l0
      cases hpt : p t with
      | true =>
        rw [hpt] at hc
        (repeat' (first | ((first | (with_reducible refine aops_call fun C hC => ?_) | (with_reducible refine aopsD_call fun C hC => ?_) | ((with_reducible intro C hC); (with_reducible refine ax_call_mp ?_))); (first | (simp only [go_sem, hlt, hat, encI_len]; (first | ((with_reducible refine ACall.pure [] (.pv _) ?_ (hc) ?_); (focus (exact vwA)))))); (simp only [PV.scal, PV.scalL, if_true, Bool.and_true, Bool.and_false, Bool.false_and, Bool.true_and, frz, List.map_nil, Bool.false_eq_true, if_false, ite_self, hlt, hat, encI_len]); ((with_reducible first | refine finA hC ?_ | refine finD hC ?_); clear hC C)) | ((with_reducible first | refine aops_cons' fun C hC => ?_ | refine aopsD_cons' fun C hC => ?_ | intro C hC); simp only [go_sem, hlt, hat, encI_len]; ((with_reducible first | refine finA hC ?_ | refine finD hC ?_); clear hC C)) | (with_reducible first | refine awp_seq_k fun K hK => ?_ | refine awp_reg_k fun K hK => ?_ | refine awp_dreg_k fun K hK => ?_ | (refine aops_nil ?_; refine hK _ _ ?_; try clear hK K) | (refine aopsD_nil ?_; refine hK _ _ _ ?_ ?_; (focus kernel_rfl); try clear hK K) | (refine thn_normal ?_; refine hK _ _ ?_; try clear hK K) | refine catch_normal ?_ | refine awp_skip_k ?_ | refine awp_ret_k ?_ | refine awp_exit_k ?_ | refine awp_block_k ?_ | (refine thn_exit ?_; try clear hK K) | (refine thn_ret ?_; try clear hK K) | refine catch_ret ?_ | refine catch_exit ?_ | (refine catch_other ?_ ?_; focus decide)) | ((with_reducible first | apply aops_guard' | apply aopsD_guard' | apply awp_cond_g); focus (simp only [go_sem, hlt, hat, encI_len]; exact rfl)) | (with_reducible first | refine gk_tt ?_ | refine gk_ff ?_ | refine ck_t ?_ | refine ck_f ?_) | ((with_reducible first | refine gk_tf ?_ | refine gk_ft ?_ | refine gk_u ?_ | refine gk_u' ?_); first | (intro _ e; (first | rw [put_some] at e | rw [put_none] at e); subst e) | (intro _ _ e e'; (first | rw [put_some] at e | rw [put_none] at e); subst e; subst e'))))
        simp only [idxF, hpt, if_true] at hi
        rw [hi]
        (refine retP_ret (List.range 40) rfl ?_; exact vwA)
      | false =>
        rw [hpt] at hc
        (repeat' (first | ((first | (with_reducible refine aops_call fun C hC => ?_) | (with_reducible refine aopsD_call fun C hC => ?_) | ((with_reducible intro C hC); (with_reducible refine ax_call_mp ?_))); (first | (simp only [go_sem, hlt, hat, encI_len]; (first | ((with_reducible refine ACall.pure [] (.pv _) ?_ (hc) ?_); (focus (exact vwA)))))); (simp only [PV.scal, PV.scalL, if_true, Bool.and_true, Bool.and_false, Bool.false_and, Bool.true_and, frz, List.map_nil, Bool.false_eq_true, if_false, ite_self, hlt, hat, encI_len]); ((with_reducible first | refine finA hC ?_ | refine finD hC ?_); clear hC C)) | ((with_reducible first | refine aops_cons' fun C hC => ?_ | refine aopsD_cons' fun C hC => ?_ | intro C hC); simp only [go_sem, hlt, hat, encI_len]; ((with_reducible first | refine finA hC ?_ | refine finD hC ?_); clear hC C)) | (with_reducible first | refine awp_seq_k fun K hK => ?_ | refine awp_reg_k fun K hK => ?_ | refine awp_dreg_k fun K hK => ?_ | (refine aops_nil ?_; refine hK _ _ ?_; try clear hK K) | (refine aopsD_nil ?_; refine hK _ _ _ ?_ ?_; (focus kernel_rfl); try clear hK K) | (refine thn_normal ?_; refine hK _ _ ?_; try clear hK K) | refine catch_normal ?_ | refine awp_skip_k ?_ | refine awp_ret_k ?_ | refine awp_exit_k ?_ | refine awp_block_k ?_ | (refine thn_exit ?_; try clear hK K) | (refine thn_ret ?_; try clear hK K) | refine catch_ret ?_ | refine catch_exit ?_ | (refine catch_other ?_ ?_; focus decide)) | ((with_reducible first | apply aops_guard' | apply aopsD_guard' | apply awp_cond_g); focus (simp only [go_sem, hlt, hat, encI_len]; exact rfl)) | (with_reducible first | refine gk_tt ?_ | refine gk_ff ?_ | refine ck_t ?_ | refine ck_f ?_) | ((with_reducible first | refine gk_tf ?_ | refine gk_ft ?_ | refine gk_u ?_ | refine gk_u' ?_); first | (intro _ e; (first | rw [put_some] at e | rw [put_none] at e); subst e) | (intro _ _ e e'; (first | rw [put_some] at e | rw [put_none] at e); subst e; subst e'))))
        have hw := wrapS (n := pre.length) (by unfold big at hb; omega)
        refine thn_normal ?_
        refine hK1 _ _ _ _ _ (LeB [] (by refine ⟨?_, ?_, ?_⟩ <;> simp only [leFr, leFb, leHp, V.ren, V.renL, V.bd, V.bdL, allL, lt, Go.Ab.get, hget, List.map_cons, List.map_nil, List.length_cons, List.length_nil, List.length_append, List.getElem?_cons_zero, List.getElem?_cons_succ, List.getElem?_nil, Option.join_some, Option.join_none, List.getD_cons_zero, List.getD_cons_succ, List.getD_nil, Nat.reduceAdd, Nat.reduceLT, Nat.reduceEqDiff, Nat.zero_add, reduceIte, if_true, if_false, and_true, true_and, renL_vcells, allL_vcells, renL_pv, leBlk_some, eq_self, true_or, or_true, reduceCtorEq, false_or, hw, List.length_append])) (ih (pre ++ [t]) (by simp [hpre]) (by simpa [idxF, hpt] using hi))
  refine awp_loop_k _ (LeB [] (by refine ⟨?_, ?_, ?_⟩ <;> simp only [leFr, leFb, leHp, V.ren, V.renL, V.bd, V.bdL, allL, lt, Go.Ab.get, hget, List.map_cons, List.map_nil, List.length_cons, List.length_nil, List.length_append, List.getElem?_cons_zero, List.getElem?_cons_succ, List.getElem?_nil, Option.join_some, Option.join_none, List.getD_cons_zero, List.getD_cons_succ, List.getD_nil, Nat.reduceAdd, Nat.reduceLT, Nat.reduceEqDiff, Nat.zero_add, reduceIte, if_true, if_false, and_true, true_and, renL_vcells, allL_vcells, renL_pv, leBlk_some, eq_self, true_or, or_true, reduceCtorEq, false_or, c0])) (rows ts [] rfl rfl)
theorem hasJ_ok (fid : FuncId) (caps : List PV) (p : Int → Bool) (ts : List Int) (hp : ∀ t ∈ ts, PCall Try.prog fid ([ii t] ++ caps) (bb (p t))) : PCall Try.prog 104 [.list 1 (encI ts), .fn fid caps] (bb (ts.any p)) := by
  have h := idxJ_ok fid caps p ts hp
  refine PCall.intro (ps := [bb (ts.any p)]) fn104 (by simp) ?_
  unfold ac104
  simp only [argFr]
  (repeat' (first | ((first | (with_reducible refine aops_call fun C hC => ?_) | (with_reducible refine aopsD_call fun C hC => ?_) | ((with_reducible intro C hC); (with_reducible refine ax_call_mp ?_))); (first | (simp only [go_sem, idxF_ge]; (first | ((with_reducible apply ACall.pure0 [] (h)); (focus (exact vwA)))))); (simp only [PV.scal, PV.scalL, if_true, Bool.and_true, Bool.and_false, Bool.false_and, Bool.true_and, frz, List.map_nil, Bool.false_eq_true, if_false, ite_self, idxF_ge]); ((with_reducible first | refine finA hC ?_ | refine finD hC ?_); clear hC C)) | ((with_reducible first | refine aops_cons' fun C hC => ?_ | refine aopsD_cons' fun C hC => ?_ | intro C hC); simp only [go_sem, idxF_ge]; ((with_reducible first | refine finA hC ?_ | refine finD hC ?_); clear hC C)) | (with_reducible first | refine awp_seq_k fun K hK => ?_ | refine awp_reg_k fun K hK => ?_ | refine awp_dreg_k fun K hK => ?_ | (refine aops_nil ?_; refine hK _ _ ?_; try clear hK K) | (refine aopsD_nil ?_; refine hK _ _ _ ?_ ?_; (focus kernel_rfl); try clear hK K) | (refine thn_normal ?_; refine hK _ _ ?_; try clear hK K) | refine catch_normal ?_ | refine awp_skip_k ?_ | refine awp_ret_k ?_ | refine awp_exit_k ?_ | refine awp_block_k ?_ | (refine thn_exit ?_; try clear hK K) | (refine thn_ret ?_; try clear hK K) | refine catch_ret ?_ | refine catch_exit ?_ | (refine catch_other ?_ ?_; focus decide)) | ((with_reducible first | apply aops_guard' | apply aopsD_guard' | apply awp_cond_g); focus (simp only [go_sem, idxF_ge]; exact rfl)) | (with_reducible first | refine gk_tt ?_ | refine gk_ff ?_ | refine ck_t ?_ | refine ck_f ?_) | ((with_reducible first | refine gk_tf ?_ | refine gk_ft ?_ | refine gk_u ?_ | refine gk_u' ?_); first | (intro _ e; (first | rw [put_some] at e | rw [put_none] at e); subst e) | (intro _ _ e e'; (first | rw [put_some] at e | rw [put_none] at e); subst e; subst e'))))
  (refine retP_ret (List.range 40) rfl ?_; exact vwA)
end Go.Proofs.Ytbdoblgofddhdaa
/- Types: Validate. -/
set_option maxRecDepth 10000
set_option linter.unusedSimpArgs false
set_option linter.unusedVariables false
namespace Go.Proofs.Ytbdoblgofddhdaa
open Go Go.Ab
def nwf (k id n : Int) : Bool :=
  if (if k == 0 then true else if k == 3 then true else if k == 4 then true else if k == 5 then true else k == 6) then (if id == 0 then n == 0 else false)
  else if (if k == 1 then true else k == 2) then (if decide (id ≥ 0) then n == 0 else false)
  else if k == 7 then decide (id ≥ 0)
  else if k == 8 then (if (if id == 0 then true else id == 1) then n == 1 else false)
  else if k == 9 then (if id == 0 then decide (n > 0) else false)
  else if k == 10 then (if decide (id ≥ 0) then n == 1 else false)
  else false
mutual
def wfT : Ty → Bool
  | .mk k id ss => if nwf k id ss.length then wfTL ss else false
def wfTL : List Ty → Bool
  | [] => true
  | t :: ts => if wfT t then wfTL ts else false
end
theorem wfTL_any : ∀ ss : List Ty, (ss.any fun a => !wfT a) = !wfTL ss
  | [] => rfl
  | t :: ts => by simp only [List.any_cons, wfTL, wfTL_any ts]; cases wfT t <;> simp
mutual
/-- size and depth, counted until the size passes L -/
def msr : Ty → Int → Int × Int
  | .mk _ _ ss, L => ((msrL ss L 1 0).1, (msrL ss L 1 0).2 + 1)
def msrL : List Ty → Int → Int → Int → Int × Int
  | [], _, s, d => (s, d)
  | t :: ts, L, s, d => if decide (s > L) then (s, d) else msrL ts L (s + (msr t (L - s)).1) (if (msr t (L - s)).2 > d then (msr t (L - s)).2 else d)
end
mutual
theorem msr_bd : ∀ (t : Ty) (L : Int), 0 ≤ L → 1 ≤ (msr t L).1 ∧ (msr t L).1 ≤ L + 1 ∧ 0 ≤ (msr t L).2 ∧ (msr t L).2 ≤ (msr t L).1
  | .mk k id ss, L, hL => by
    have := msrL_bd ss L 1 0 hL (by omega) (by omega) (by omega) (by omega)
    simp only [msr]; omega
theorem msrL_bd : ∀ (ts : List Ty) (L s d : Int), 0 ≤ L → 1 ≤ s → s ≤ L + 1 → 0 ≤ d → d < s → 1 ≤ (msrL ts L s d).1 ∧ (msrL ts L s d).1 ≤ L + 1 ∧ 0 ≤ (msrL ts L s d).2 ∧ (msrL ts L s d).2 < (msrL ts L s d).1
  | [], L, s, d, hL, h1, h2, h3, h4 => by simp only [msrL]; omega
  | t :: ts, L, s, d, hL, h1, h2, h3, h4 => by
    simp only [msrL]
    by_cases h : s > L
    · simp only [h, decide_true, if_true]; omega
    · simp only [h, decide_false, Bool.false_eq_true, if_false]
      have hb := msr_bd t (L - s) (by omega)
      refine msrL_bd ts L _ _ hL (by omega) (by omega) ?_ ?_ <;> split <;> omega
end
theorem w64 {n : Int} (h : -1000000 ≤ n ∧ n ≤ 1000000) : IntKind.i64.wrap n = n := by rw [IntWalk.i64_in _ (by omega)]
def valT (t : Ty) : Int := if (if decide ((msr t 100).1 > 100) then true else decide ((msr t 100).2 > 12)) then 2 else if !wfT t then 3 else 0
end Go.Proofs.Ytbdoblgofddhdaa
/- Lists of integers compared; the check that the operations work at all. -/
set_option maxRecDepth 10000
set_option linter.unusedSimpArgs false
set_option linter.unusedVariables false
namespace Go.Proofs.Ytbdoblgofddhdaa
open Go Go.Ab
def eqIL : List Int → List Int → Bool
  | [], [] => true
  | a :: xs, b :: ys => if a == b then eqIL xs ys else false
  | [], _ :: _ => false
  | _ :: _, [] => false
theorem eqIL_iff : ∀ a b : List Int, eqIL a b = true ↔ a = b
  | [], [] => by simp [eqIL]
  | a :: xs, b :: ys => by
    simp only [eqIL, List.cons.injEq]
    by_cases h : a = b
    · simp [h, eqIL_iff xs ys]
    · simp [h]
  | [], b :: ys => by simp [eqIL]
  | a :: xs, [] => by simp [eqIL]
theorem eqIL_len {xs ys : List Int} (h : ((xs.length : Int) != (ys.length : Int)) = true) : eqIL xs ys = false := by
  cases he : eqIL xs ys with
  | false => rfl
  | true => have := (eqIL_iff xs ys).1 he; subst this; simp at h
set_option maxHeartbeats 1000000 in
theorem eqi_ok (xs ys : List Int) : PCall Try.prog 51 [.list 1 (encI xs), .list 1 (encI ys)] (bb (eqIL xs ys)) := by
  refine PCall.intro' (ps := [bb (eqIL xs ys)]) fn51 (by simp) fun hok => ?_
  have hss : xs.length ≤ 1099511627776 := by
    simp only [PV.okL, PV.ok, encI_len, big] at hok; exact hok.1.1
  clear hok
  unfold ac51
  simp only [argFr]
  cases hlen : ((xs.length : Int) != (ys.length : Int)) with
  | true =>
    (repeat' (first | ((with_reducible first | refine aops_cons' fun C hC => ?_ | refine aopsD_cons' fun C hC => ?_ | intro C hC); simp only [go_sem, encI_len, hlen]; ((with_reducible first | refine finA hC ?_ | refine finD hC ?_); clear hC C)) | (with_reducible first | refine awp_seq_k fun K hK => ?_ | refine awp_reg_k fun K hK => ?_ | refine awp_dreg_k fun K hK => ?_ | (refine aops_nil ?_; refine hK _ _ ?_; try clear hK K) | (refine aopsD_nil ?_; refine hK _ _ _ ?_ ?_; (focus kernel_rfl); try clear hK K) | (refine thn_normal ?_; refine hK _ _ ?_; try clear hK K) | refine catch_normal ?_ | refine awp_skip_k ?_ | refine awp_ret_k ?_ | refine awp_exit_k ?_ | refine awp_block_k ?_ | (refine thn_exit ?_; try clear hK K) | (refine thn_ret ?_; try clear hK K) | refine catch_ret ?_ | refine catch_exit ?_ | (refine catch_other ?_ ?_; focus decide)) | ((with_reducible first | apply aops_guard' | apply aopsD_guard' | apply awp_cond_g); focus (simp only [go_sem, encI_len, hlen]; exact rfl)) | (with_reducible first | refine gk_tt ?_ | refine gk_ff ?_ | refine ck_t ?_ | refine ck_f ?_) | ((with_reducible first | refine gk_tf ?_ | refine gk_ft ?_ | refine gk_u ?_ | refine gk_u' ?_); first | (intro _ e; (first | rw [put_some] at e | rw [put_none] at e); subst e) | (intro _ _ e e'; (first | rw [put_some] at e | rw [put_none] at e); subst e; subst e'))))
    rw [eqIL_len hlen]
    (refine retP_ret (List.range 40) rfl ?_; exact vwA)
  | false =>
    have hl : xs.length = ys.length := by
      have : (xs.length : Int) = ys.length := by simpa using hlen
      omega
    (repeat' (first | ((with_reducible first | refine aops_cons' fun C hC => ?_ | refine aopsD_cons' fun C hC => ?_ | intro C hC); simp only [go_sem, encI_len, hlen]; ((with_reducible first | refine finA hC ?_ | refine finD hC ?_); clear hC C)) | (with_reducible first | refine awp_seq_k fun K hK => ?_ | refine awp_reg_k fun K hK => ?_ | refine awp_dreg_k fun K hK => ?_ | (refine aops_nil ?_; refine hK _ _ ?_; try clear hK K) | (refine aopsD_nil ?_; refine hK _ _ _ ?_ ?_; (focus kernel_rfl); try clear hK K) | (refine thn_normal ?_; refine hK _ _ ?_; try clear hK K) | refine catch_normal ?_ | refine awp_skip_k ?_ | refine awp_ret_k ?_ | refine awp_exit_k ?_ | refine awp_block_k ?_ | (refine thn_exit ?_; try clear hK K) | (refine thn_ret ?_; try clear hK K) | refine catch_ret ?_ | refine catch_exit ?_ | (refine catch_other ?_ ?_; focus decide)) | ((with_reducible first | apply aops_guard' | apply aopsD_guard' | apply awp_cond_g); focus (simp only [go_sem, encI_len, hlen]; exact rfl)) | (with_reducible first | refine gk_tt ?_ | refine gk_ff ?_ | refine ck_t ?_ | refine ck_f ?_) | ((with_reducible first | refine gk_tf ?_ | refine gk_ft ?_ | refine gk_u ?_ | refine gk_u' ?_); first | (intro _ e; (first | rw [put_some] at e | rw [put_none] at e); subst e) | (intro _ _ e e'; (first | rw [put_some] at e | rw [put_none] at e); subst e; subst e'))))
    have rows : ∀ (rest rest' pre pre' : List Int), pre ++ rest = xs → pre' ++ rest' = ys → pre.length = pre'.length → eqIL xs ys = eqIL rest rest' → loopN (awp Try.prog ac51_l0) (catch_ 0 (thn K (retP [RV.tmp 4] [bb (eqIL xs ys)]))) (rest.length + 1)
       [(13, .pv (ii pre.length)), (12, .pv (ii xs.length)), (1, .pv (.list 1 (encI ys))), (0, .pv (.list 1 (encI xs)))] [] := by
      intro rest
      induction rest with
      | nil =>
        intro rest' pre pre' hpre hpre' hll he
        have hpre : pre = xs := by simpa using hpre
        have hr : rest' = [] := by
          have h1 := congrArg List.length hpre'
          simp only [List.length_append] at h1
          subst hpre
          exact List.eq_nil_of_length_eq_zero (by omega)
        subst hpre; subst hr
        refine loopN_k fun K1 hK1 => ?_
        unfold ac51_l0
        (repeat' (first | ((with_reducible first | refine aops_cons' fun C hC => ?_ | refine aopsD_cons' fun C hC => ?_ | intro C hC); simp only [go_sem, lt_end]; ((with_reducible first | refine finA hC ?_ | refine finD hC ?_); clear hC C)) | (with_reducible first | refine awp_seq_k fun K hK => ?_ | refine awp_reg_k fun K hK => ?_ | refine awp_dreg_k fun K hK => ?_ | (refine aops_nil ?_; refine hK _ _ ?_; try clear hK K) | (refine aopsD_nil ?_; refine hK _ _ _ ?_ ?_; (focus kernel_rfl); try clear hK K) | (refine thn_normal ?_; refine hK _ _ ?_; try clear hK K) | refine catch_normal ?_ | refine awp_skip_k ?_ | refine awp_ret_k ?_ | refine awp_exit_k ?_ | refine awp_block_k ?_ | (refine thn_exit ?_; try clear hK K) | (refine thn_ret ?_; try clear hK K) | refine catch_ret ?_ | refine catch_exit ?_ | (refine catch_other ?_ ?_; focus decide)) | ((with_reducible first | apply aops_guard' | apply aopsD_guard' | apply awp_cond_g); focus (simp only [go_sem, lt_end]; exact rfl)) | (with_reducible first | refine gk_tt ?_ | refine gk_ff ?_ | refine ck_t ?_ | refine ck_f ?_) | ((with_reducible first | refine gk_tf ?_ | refine gk_ft ?_ | refine gk_u ?_ | refine gk_u' ?_); first | (intro _ e; (first | rw [put_some] at e | rw [put_none] at e); subst e) | (intro _ _ e e'; (first | rw [put_some] at e | rw [put_none] at e); subst e; subst e'))))
        rw [he]
        (refine retP_ret (List.range 40) rfl ?_; (try simp only [eqIL, if_true, if_false, Bool.false_eq_true, Bool.not_true, Bool.not_false]); exact vwA)
      | cons t rest ih =>
        intro rest' pre pre' hpre hpre' hll he
        cases rest' with
        | nil =>
          have h1 := congrArg List.length hpre
          have h2 := congrArg List.length hpre'
          simp at h1 h2; omega
        | cons u rest' =>
        have hlt : decide ((pre.length : Int) < (xs.length : Int)) = true := by subst hpre; exact lt_app _ _ _
        have hat : (encI xs)[pre.length]? = some (ii t) := by subst hpre; exact encI_at _ _ _
        have hat' : (encI ys)[pre.length]? = some (ii u) := by rw [hll]; subst hpre'; exact encI_at _ _ _
        have hb : pre.length + 1 ≤ big := by have := congrArg List.length hpre; simp at this; unfold big; omega
        refine loopN_k fun K1 hK1 => ?_
        unfold ac51_l0
        cases hpt : (t == u) with
        | false =>
          (repeat' (first | ((with_reducible first | refine aops_cons' fun C hC => ?_ | refine aopsD_cons' fun C hC => ?_ | intro C hC); simp only [go_sem, hlt, hat, hat', bne, hpt]; ((with_reducible first | refine finA hC ?_ | refine finD hC ?_); clear hC C)) | (with_reducible first | refine awp_seq_k fun K hK => ?_ | refine awp_reg_k fun K hK => ?_ | refine awp_dreg_k fun K hK => ?_ | (refine aops_nil ?_; refine hK _ _ ?_; try clear hK K) | (refine aopsD_nil ?_; refine hK _ _ _ ?_ ?_; (focus kernel_rfl); try clear hK K) | (refine thn_normal ?_; refine hK _ _ ?_; try clear hK K) | refine catch_normal ?_ | refine awp_skip_k ?_ | refine awp_ret_k ?_ | refine awp_exit_k ?_ | refine awp_block_k ?_ | (refine thn_exit ?_; try clear hK K) | (refine thn_ret ?_; try clear hK K) | refine catch_ret ?_ | refine catch_exit ?_ | (refine catch_other ?_ ?_; focus decide)) | ((with_reducible first | apply aops_guard' | apply aopsD_guard' | apply awp_cond_g); focus (simp only [go_sem, hlt, hat, hat', bne, hpt]; exact rfl)) | (with_reducible first | refine gk_tt ?_ | refine gk_ff ?_ | refine ck_t ?_ | refine ck_f ?_) | ((with_reducible first | refine gk_tf ?_ | refine gk_ft ?_ | refine gk_u ?_ | refine gk_u' ?_); first | (intro _ e; (first | rw [put_some] at e | rw [put_none] at e); subst e) | (intro _ _ e e'; (first | rw [put_some] at e | rw [put_none] at e); subst e; subst e'))))
          simp only [eqIL, hpt, Bool.false_eq_true, if_false] at he
          rw [he]
          (refine retP_ret (List.range 40) rfl ?_; exact vwA)
        | true =>
          (repeat' (first | ((with_reducible first | refine aops_cons' fun C hC => ?_ | refine aopsD_cons' fun C hC => ?_ | intro C hC); simp only [go_sem, hlt, hat, hat', bne, hpt]; ((with_reducible first | refine finA hC ?_ | refine finD hC ?_); clear hC C)) | (with_reducible first | refine awp_seq_k fun K hK => ?_ | refine awp_reg_k fun K hK => ?_ | refine awp_dreg_k fun K hK => ?_ | (refine aops_nil ?_; refine hK _ _ ?_; try clear hK K) | (refine aopsD_nil ?_; refine hK _ _ _ ?_ ?_; (focus kernel_rfl); try clear hK K) | (refine thn_normal ?_; refine hK _ _ ?_; try clear hK K) | refine catch_normal ?_ | refine awp_skip_k ?_ | refine awp_ret_k ?_ | refine awp_exit_k ?_ | refine awp_block_k ?_ | (refine thn_exit ?_; try clear hK K) | (refine thn_ret ?_; try clear hK K) | refine catch_ret ?_ | refine catch_exit ?_ | (refine catch_other ?_ ?_; focus decide)) | ((with_reducible first | apply aops_guard' | apply aopsD_guard' | apply awp_cond_g); focus (simp only [go_sem, hlt, hat, hat', bne, hpt]; exact rfl)) | (with_reducible first | refine gk_tt ?_ | refine gk_ff ?_ | refine ck_t ?_ | refine ck_f ?_) | ((with_reducible first | refine gk_tf ?_ | refine gk_ft ?_ | refine gk_u ?_ | refine gk_u' ?_); first | (intro _ e; (first | rw [put_some] at e | rw [put_none] at e); subst e) | (intro _ _ e e'; (first | rw [put_some] at e | rw [put_none] at e); subst e; subst e'))))
          have hw := wrapS (n := pre.length) (by unfold big at hb; omega)
          refine thn_normal ?_
          refine hK1 _ _ _ _ _ (LeB [] (by refine ⟨?_, ?_, ?_⟩ <;> simp only [leFr, leFb, leHp, V.ren, V.renL, V.bd, V.bdL, allL, lt, Go.Ab.get, hget, List.map_cons, List.map_nil, List.length_cons, List.length_nil, List.length_append, List.getElem?_cons_zero, List.getElem?_cons_succ, List.getElem?_nil, Option.join_some, Option.join_none, List.getD_cons_zero, List.getD_cons_succ, List.getD_nil, Nat.reduceAdd, Nat.reduceLT, Nat.reduceEqDiff, Nat.zero_add, reduceIte, if_true, if_false, and_true, true_and, renL_vcells, allL_vcells, renL_pv, leBlk_some, eq_self, true_or, or_true, reduceCtorEq, false_or, hw, List.length_append])) (ih rest' (pre ++ [t]) (pre' ++ [u]) (by simp [hpre]) (by simp [hpre']) (by simp [hll]) (by simpa [eqIL, hpt] using he))
    refine awp_loop_k _ (LeB [] (by refine ⟨?_, ?_, ?_⟩ <;> simp only [leFr, leFb, leHp, V.ren, V.renL, V.bd, V.bdL, allL, lt, Go.Ab.get, hget, List.map_cons, List.map_nil, List.length_cons, List.length_nil, List.length_append, List.getElem?_cons_zero, List.getElem?_cons_succ, List.getElem?_nil, Option.join_some, Option.join_none, List.getD_cons_zero, List.getD_cons_succ, List.getD_nil, Nat.reduceAdd, Nat.reduceLT, Nat.reduceEqDiff, Nat.zero_add, reduceIte, if_true, if_false, and_true, true_and, renL_vcells, allL_vcells, renL_pv, leBlk_some, eq_self, true_or, or_true, reduceCtorEq, false_or, c0])) (rows xs ys [] [] rfl rfl rfl rfl)
def exT : Ty := .mk 9 0 [.mk 1 3 [], .mk 7 7 [.mk 1 1 [], .mk 1 3 []]]
def exU : Ty := subT [⟨3, .mk 3 0 []⟩] exT
theorem exU_eq : exU = .mk 9 0 [.mk 3 0 [], .mk 7 7 [.mk 1 1 [], .mk 3 0 []]] := by rfl
theorem exV : valT exT = 0 := by rfl
theorem exF : fvs exT = [3, 1] := by rfl
theorem exF2 : fvs exU = [1] := by rfl
theorem exV2 : valT (.mk 8 2 [exT]) = 3 := by rfl
end Go.Proofs.Ytbdoblgofddhdaa
/- Variables of a type, substitution: the plain laws. -/
set_option linter.unusedSimpArgs false
set_option linter.unusedVariables false
namespace Go.Proofs.Ytbdoblgofddhdaa
open Go Go.Ab
mutual
def occ (x : Int) : Ty → Bool
  | .mk k id ss => (k == 1 && id == x) || occL x ss
def occL (x : Int) : List Ty → Bool
  | [] => false
  | t :: ts => occ x t || occL x ts
end
mutual
theorem mem_afv (x : Int) : ∀ (t : Ty) (xs : List Int), x ∈ afv t xs ↔ x ∈ xs ∨ occ x t = true
  | .mk k id ss, xs => by
    have hany : (xs.any fun y => id == y) = decide (id ∈ xs) := by
      by_cases hm : id ∈ xs
      · simp only [hm, decide_true, List.any_eq_true]; exact ⟨id, hm, by simp⟩
      · simp only [hm, decide_false, List.any_eq_false]; intro y hy e; exact hm ((beq_iff_eq.1 e) ▸ hy)
    simp only [afv, occ, mem_afvL x ss, hany]
    by_cases hk : k = 1
    · subst hk
      by_cases hx : id = x
      · subst hx
        by_cases hm : id ∈ xs
        · simp [hm]
        · simp [hm]
      · by_cases hm : id ∈ xs
        · simp [hm, hx]
        · have : ¬ x = id := fun e => hx e.symm
          simp [hm, hx, this]
    · simp [hk]
theorem mem_afvL (x : Int) : ∀ (ts : List Ty) (xs : List Int), x ∈ afvL ts xs ↔ x ∈ xs ∨ occL x ts = true
  | [], xs => by simp [afvL, occL]
  | t :: ts, xs => by simp only [afvL, occL, mem_afvL x ts, mem_afv x t, Bool.or_eq_true, or_assoc]
end
theorem mem_fvs (x : Int) (t : Ty) : x ∈ fvs t ↔ occ x t = true := by simp [fvs, mem_afv]
theorem any_fvs (x : Int) (t : Ty) : ((fvs t).any fun y => x == y) = occ x t := by
  by_cases h : occ x t = true
  · rw [h, List.any_eq_true]; exact ⟨x, (mem_fvs x t).2 h, by simp⟩
  · have h' : occ x t = false := by simpa using h
    rw [h', List.any_eq_false]
    intro y hy e
    have : x = y := by simpa using e
    subst this
    exact h ((mem_fvs x t).1 hy)
mutual
theorem sub_absent {s : List Bd} : ∀ (t : Ty), (∀ b ∈ s, occ b.v t = false) → subT s t = t
  | .mk k id ss, h => by
    have hg : subG s (.mk k id ss) = (.mk k id ss, false) := by
      unfold subG
      simp only [Ty.kd, Ty.id]
      by_cases hk : k = 1
      · have : findB s id = none := findB_none fun b hb => by
          have := h b hb
          simp only [occ, hk, beq_self_eq_true, Bool.true_and, Bool.or_eq_false_iff] at this
          have h2 := this.1
          simp only [beq_eq_false_iff_ne, ne_eq] at h2 ⊢
          exact fun e => h2 e.symm
        simp [hk, this]
      · simp [hk]
    simp only [subT, mapT, hg, Bool.false_eq_true, if_false]
    rw [sub_absentL ss fun b hb => by have := h b hb; simp only [occ, Bool.or_eq_false_iff] at this; exact this.2]
theorem sub_absentL {s : List Bd} : ∀ (ts : List Ty), (∀ b ∈ s, occL b.v ts = false) → mapTL (subG s) ts = ts
  | [], _ => rfl
  | t :: ts, h => by
    have h1 := sub_absent t fun b hb => by have := h b hb; simp only [occL, Bool.or_eq_false_iff] at this; exact this.1
    have h2 := sub_absentL ts fun b hb => by have := h b hb; simp only [occL, Bool.or_eq_false_iff] at this; exact this.2
    unfold subT at h1
    simp only [mapTL, h1, h2]
end
mutual
theorem occ_sub {v : Int} {r : Ty} {x : Int} : ∀ (t : Ty), occ x (subT [⟨v, r⟩] t) = true → occ x r = true ∨ (¬ x = v ∧ occ x t = true)
  | .mk k id ss, h => by
    by_cases hk : k = 1
    · by_cases hv : v = id
      · have hg : subG [⟨v, r⟩] (.mk k id ss) = (r, true) := by simp [subG, Ty.kd, Ty.id, hk, findB, hv]
        simp only [subT, mapT, hg, if_true] at h
        exact .inl h
      · have hg : subG [⟨v, r⟩] (.mk k id ss) = (.mk k id ss, false) := by simp [subG, Ty.kd, Ty.id, hk, findB, hv]
        simp only [subT, mapT, hg, Bool.false_eq_true, if_false, occ, Bool.or_eq_true, Bool.and_eq_true, beq_iff_eq] at h
        rcases h with ⟨_, e⟩ | h
        · exact .inr ⟨fun e' => hv (e'.symm.trans e.symm), by simp [occ, hk, e]⟩
        · rcases occ_subL ss h with h1 | ⟨h1, h2⟩
          · exact .inl h1
          · exact .inr ⟨h1, by simp [occ, h2]⟩
    · have hg : subG [⟨v, r⟩] (.mk k id ss) = (.mk k id ss, false) := by simp [subG, Ty.kd, hk]
      simp only [subT, mapT, hg, Bool.false_eq_true, if_false, occ, Bool.or_eq_true, Bool.and_eq_true, beq_iff_eq] at h
      rcases h with ⟨e, _⟩ | h
      · exact absurd e hk
      · rcases occ_subL ss h with h1 | ⟨h1, h2⟩
        · exact .inl h1
        · exact .inr ⟨h1, by simp [occ, h2]⟩
theorem occ_subL {v : Int} {r : Ty} {x : Int} : ∀ (ts : List Ty), occL x (mapTL (subG [⟨v, r⟩]) ts) = true → occ x r = true ∨ (¬ x = v ∧ occL x ts = true)
  | [], h => by simp [mapTL, occL] at h
  | t :: ts, h => by
    simp only [mapTL, occL, Bool.or_eq_true] at h
    rcases h with h | h
    · rcases occ_sub t h with h1 | ⟨h1, h2⟩
      · exact .inl h1
      · exact .inr ⟨h1, by simp [occL, h2]⟩
    · rcases occ_subL ts h with h1 | ⟨h1, h2⟩
      · exact .inl h1
      · exact .inr ⟨h1, by simp [occL, h2]⟩
end
/-- a ground type stays as it is -/
theorem sub_ground {s : List Bd} {a : Ty} (h : fvs a = []) : subT s a = a := sub_absent a fun b _ => by
  cases e : occ b.v a with
  | false => rfl
  | true => have := (mem_fvs b.v a).2 e; rw [h] at this; cases this
mutual
theorem sub_seq {x y : Int} {a b : Ty} (hxy : ¬ x = y) (ha : ∀ s, subT s a = a) : ∀ (t : Ty), subT [⟨y, b⟩] (subT [⟨x, a⟩] t) = subT [⟨x, a⟩, ⟨y, b⟩] t
  | .mk k id ss => by
    by_cases hk : k = 1
    · by_cases hx : x = id
      · have hg : subG [⟨x, a⟩] (.mk k id ss) = (a, true) := by simp [subG, Ty.kd, Ty.id, hk, findB, hx]
        have hg2 : subG [⟨x, a⟩, ⟨y, b⟩] (.mk k id ss) = (a, true) := by simp [subG, Ty.kd, Ty.id, hk, findB, hx]
        rw [show subT [⟨x, a⟩] (.mk k id ss) = a by simp only [subT, mapT, hg, if_true], show subT [⟨x, a⟩, ⟨y, b⟩] (.mk k id ss) = a by simp only [subT, mapT, hg2, if_true]]
        exact ha _
      · have hg : subG [⟨x, a⟩] (.mk k id ss) = (.mk k id ss, false) := by simp [subG, Ty.kd, Ty.id, hk, findB, hx]
        rw [show subT [⟨x, a⟩] (.mk k id ss) = .mk k id (mapTL (subG [⟨x, a⟩]) ss) by simp only [subT, mapT, hg, Bool.false_eq_true, if_false]]
        by_cases hy : y = id
        · have hg2 : subG [⟨y, b⟩] (.mk k id (mapTL (subG [⟨x, a⟩]) ss)) = (b, true) := by simp [subG, Ty.kd, Ty.id, hk, findB, hy]
          have hg3 : subG [⟨x, a⟩, ⟨y, b⟩] (.mk k id ss) = (b, true) := by simp [subG, Ty.kd, Ty.id, hk, findB, hy, hx]
          simp only [subT, mapT, hg2, hg3, if_true]
        · have hg2 : subG [⟨y, b⟩] (.mk k id (mapTL (subG [⟨x, a⟩]) ss)) = (.mk k id (mapTL (subG [⟨x, a⟩]) ss), false) := by simp [subG, Ty.kd, Ty.id, hk, findB, hy]
          have hg3 : subG [⟨x, a⟩, ⟨y, b⟩] (.mk k id ss) = (.mk k id ss, false) := by simp [subG, Ty.kd, Ty.id, hk, findB, hy, hx]
          simp only [subT, mapT, hg2, hg3, Bool.false_eq_true, if_false, sub_seqL hxy ha ss]
    · have hg : ∀ s ts, subG s (.mk k id ts) = (.mk k id ts, false) := fun s ts => by simp [subG, Ty.kd, hk]
      simp only [subT, mapT, hg, Bool.false_eq_true, if_false, sub_seqL hxy ha ss]
theorem sub_seqL {x y : Int} {a b : Ty} (hxy : ¬ x = y) (ha : ∀ s, subT s a = a) : ∀ (ts : List Ty), mapTL (subG [⟨y, b⟩]) (mapTL (subG [⟨x, a⟩]) ts) = mapTL (subG [⟨x, a⟩, ⟨y, b⟩]) ts
  | [] => rfl
  | t :: ts => by
    have h := sub_seq (b := b) hxy ha t
    unfold subT at h
    simp only [mapTL, h, sub_seqL hxy ha ts]
end
mutual
theorem sub_swap {x y : Int} {a b : Ty} (hxy : ¬ x = y) : ∀ (t : Ty), subT [⟨y, b⟩, ⟨x, a⟩] t = subT [⟨x, a⟩, ⟨y, b⟩] t
  | .mk k id ss => by
    have hg : subG [⟨y, b⟩, ⟨x, a⟩] (.mk k id ss) = subG [⟨x, a⟩, ⟨y, b⟩] (.mk k id ss) := by
      simp only [subG, Ty.kd, Ty.id, findB]
      by_cases hx : x = id
      · have : ¬ y = id := fun e => hxy (hx.trans e.symm)
        simp [hx, this]
      · simp [hx]
    simp only [subT, mapT, hg, sub_swapL hxy ss]
theorem sub_swapL {x y : Int} {a b : Ty} (hxy : ¬ x = y) : ∀ (ts : List Ty), mapTL (subG [⟨y, b⟩, ⟨x, a⟩]) ts = mapTL (subG [⟨x, a⟩, ⟨y, b⟩]) ts
  | [] => rfl
  | t :: ts => by
    have h := sub_swap (a := a) (b := b) hxy t
    unfold subT at h
    simp only [mapTL, h, sub_swapL hxy ts]
end
/-! ### sizes -/
mutual
def nds : Ty → Nat
  | .mk _ _ ss => ndsL ss + 1
def ndsL : List Ty → Nat
  | [] => 0
  | t :: ts => nds t + ndsL ts
end
theorem nds_pos (t : Ty) : 1 ≤ nds t := by cases t; simp [nds]
mutual
theorem afv_len : ∀ (t : Ty) (xs : List Int), (afv t xs).length ≤ xs.length + nds t
  | .mk k id ss, xs => by
    simp only [afv, nds]
    refine Nat.le_trans (afvL_len ss _) ?_
    by_cases h : (if k == 1 then !(xs.any fun x => id == x) else false) = true
    · rw [if_pos h]; simp; omega
    · rw [if_neg h]; omega
theorem afvL_len : ∀ (ts : List Ty) (xs : List Int), (afvL ts xs).length ≤ xs.length + ndsL ts
  | [], xs => by simp [afvL, ndsL]
  | t :: ts, xs => by
    have h1 := afvL_len ts (afv t xs)
    have h2 := afv_len t xs
    simp only [afvL, ndsL]; omega
end
theorem fvs_len (t : Ty) : (fvs t).length ≤ nds t := by have := afv_len t []; simpa [fvs] using this
mutual
theorem nds_sub {s : List Bd} {m : Nat} (hm : 1 ≤ m) (h : ∀ b ∈ s, nds b.t ≤ m) : ∀ (t : Ty), nds (subT s t) ≤ nds t * m
  | .mk k id ss => by
    have hL := nds_subL hm h ss
    have hkeep : nds (.mk k id (mapTL (subG s) ss)) ≤ nds (.mk k id ss) * m := by
      simp only [nds, Nat.add_mul]; omega
    have hget : ∀ {bs : List Bd} {r : Ty}, (∀ b ∈ bs, nds b.t ≤ m) → findB bs id = some r → nds r ≤ m := by
      intro bs
      induction bs with
      | nil => intro r _ e; simp [findB] at e
      | cons b bs ih =>
        intro r hb e
        simp only [findB] at e
        split at e
        · cases e; exact hb b (by simp)
        · exact ih (fun c hc => hb c (by simp [hc])) e
    by_cases hk : k = 1
    · cases hf : findB s id with
      | none =>
        have hg : subG s (.mk k id ss) = (.mk k id ss, false) := by simp [subG, Ty.kd, Ty.id, hk, hf]
        simp only [subT, mapT, hg, Bool.false_eq_true, if_false]; exact hkeep
      | some r =>
        have hg : subG s (.mk k id ss) = (r, true) := by simp [subG, Ty.kd, Ty.id, hk, hf]
        simp only [subT, mapT, hg, if_true]
        have h1 := hget h hf
        have h2 := nds_pos (.mk k id ss)
        exact Nat.le_trans h1 (Nat.le_mul_of_pos_left m h2)
    · have hg : subG s (.mk k id ss) = (.mk k id ss, false) := by simp [subG, Ty.kd, hk]
      simp only [subT, mapT, hg, Bool.false_eq_true, if_false]; exact hkeep
theorem nds_subL {s : List Bd} {m : Nat} (hm : 1 ≤ m) (h : ∀ b ∈ s, nds b.t ≤ m) : ∀ (ts : List Ty), ndsL (mapTL (subG s) ts) ≤ ndsL ts * m
  | [] => by simp [mapTL, ndsL]
  | t :: ts => by
    have h1 := nds_sub hm h t
    have h2 := nds_subL hm h ts
    unfold subT at h1
    simp only [mapTL, ndsL, Nat.add_mul]; omega
end
end Go.Proofs.Ytbdoblgofddhdaa
