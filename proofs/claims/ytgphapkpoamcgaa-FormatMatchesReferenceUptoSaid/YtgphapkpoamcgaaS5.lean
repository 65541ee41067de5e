/- Types: FreeVars. -/
import Derived.Test.YtgphapkpoamcgaaS4
set_option maxRecDepth 10000
set_option linter.unusedSimpArgs false
set_option linter.unusedVariables false
namespace Go.Proofs.Ytgphapkpoamcgaa
open Go Go.Ab
mutual
def afv : Ty → List Int → List Int
  | .mk k id ss, xs => afvL ss (if (if k == 1 then !(xs.any fun x => id == x) else false) then xs ++ [id] else xs)
def afvL : List Ty → List Int → List Int
  | [], xs => xs
  | t :: ts, xs => afvL ts (afv t xs)
end
mutual
theorem afv_mono : ∀ (t : Ty) (xs : List Int), xs.length ≤ (afv t xs).length
  | .mk k id ss, xs => by
    simp only [afv]
    refine Nat.le_trans ?_ (afvL_mono ss _)
    by_cases h : (if k == 1 then !(xs.any fun x => id == x) else false) = true
    · rw [if_pos h]; simp
    · rw [if_neg h]; exact Nat.le_refl _
theorem afvL_mono : ∀ (ts : List Ty) (xs : List Int), xs.length ≤ (afvL ts xs).length
  | [], xs => Nat.le_refl _
  | t :: ts, xs => Nat.le_trans (afv_mono t xs) (afvL_mono ts _)
end
theorem ok_memL : ∀ {ss : List Ty} {t : Ty}, PV.okL (encL ss) → t ∈ ss → t.enc.ok
  | [], _, _, h => by cases h
  | s :: ss, t, hok, h => by
    simp only [encL, PV.okL] at hok
    rcases List.mem_cons.1 h with rfl | h
    · exact hok.1
    · exact ok_memL hok.2 h
theorem ok_mem {k id : Int} {ss : List Ty} {t : Ty} (hok : (Ty.mk k id ss).enc.ok) (h : t ∈ ss) : t.enc.ok := by
  simp only [Ty.enc, PV.ok, PV.okL] at hok
  exact ok_memL hok.2.2.1.2 h
def cI (x : Int) : List V := [.pv (ii x)]
abbrev rowI (xs : List Int) : Blk := ⟨false, 3, 1, xs.map cI, none⟩
theorem VwE_ii {h : HF} {B : List Nat} : ∀ (xs : List Int), VwE h B 1 (xs.map cI) (encI xs)
  | [] => .nil _
  | x :: xs => .cons _ _ _ _ _ rfl (.cons _ _ _ _ (.pv _) .nil) (VwE_ii xs)
theorem row_ii {h : HF} {B : List Nat} {b : Nat} {fl ro : Bool} {ty : Nat} {xs : List Int} {tg : Option (Nat × Nat × Nat)} (hb : b ∈ B) (hk : h b = some ⟨ro, ty, 1, xs.map cI, tg⟩) : Vw h B (.row b xs.length fl) (.list 1 (encI xs)) :=
  row_view hb hk (by simp) (VwE_ii xs)
theorem renL_cI {ρ : Nat → Nat} (xs : List Int) : (xs.map cI).map (V.renL ρ) = xs.map cI := by
  rw [List.map_map]; exact List.map_congr_left fun p _ => rfl
theorem allL_cI {S : Nat → Prop} (xs : List Int) : allL S (xs.map cI) = True := by
  simp only [allL_iff, eq_iff_iff, iff_true]
  intro cs hcs
  obtain ⟨p, _, rfl⟩ := List.mem_map.1 hcs
  simp [cI, V.bdL, V.bd]
theorem renL_cI1 {ρ : Nat → Nat} (x : Int) : V.renL ρ (cI x) = cI x := rfl
theorem bdL_cI1 {S : Nat → Prop} (x : Int) : V.bdL S (cI x) = True := by simp [cI, V.bdL, V.bd]
theorem bd_cI {S : Nat → Prop} {xs : List Int} : ∀ cs ∈ xs.map cI, V.bdL S cs := by
  intro cs hcs
  obtain ⟨p, _, rfl⟩ := List.mem_map.1 hcs
  simp [cI, V.bdL, V.bd]
theorem HpOk_nil : HpOk [] := ⟨fun b k e => by simp [hget] at e, fun b k e => by simp [hget] at e⟩
theorem HpOk_row (xs : List Int) : HpOk [some (rowI xs)] := by
  refine ⟨fun b k e => ?_, fun b k e => ?_⟩ <;> (cases b with
    | zero => simp only [hget, List.getElem?_cons_zero, Option.join_some, Option.some.injEq] at e; subst e; first | rfl | exact bd_cI
    | succ b => simp [hget] at e)
theorem HpOk_row1 (xs : List Int) : HpOk [none, some (rowI xs)] := by
  refine ⟨fun b k e => ?_, fun b k e => ?_⟩ <;> (match b, e with
    | 0, e => simp [hget] at e
    | 1, e => simp only [hget, List.getElem?_cons_zero, List.getElem?_cons_succ, Option.join_some, Option.some.injEq] at e; subst e; first | rfl | exact bd_cI
    | b + 2, e => simp [hget] at e)
theorem LV_one (xs : List Int) : ∀ b, b < [some (rowI xs)].length → LV [some (rowI xs)] b := fun b hb => by
  have : b = 0 := by simpa using hb
  subst this; exact ⟨_, rfl⟩
/-- rows as a callee sees them -/
theorem hh_row {h : HF} {ρ : List Nat} {nb : Nat} {xs : List Int} {tg : Option (Nat × Nat × Nat)} (e : h (rho ρ nb 0) = some ⟨false, 3, 1, xs.map cI, tg⟩) :
    ∀ i k, hget [some (rowI xs)] i = some k → ∃ k', h (rho ρ nb i) = some k' ∧ BlkWk (rho ρ nb) k' k := fun i k ek => by
  cases i with
  | zero =>
    simp only [hget, List.getElem?_cons_zero, Option.join_some, Option.some.injEq] at ek
    subst ek
    exact ⟨_, e, .of (k := rowI xs) (by rw [renL_cI]; exact WkX.refl _)⟩
  | succ i => simp [hget] at ek
theorem hh_nil {h : HF} {ρ : List Nat} {nb : Nat} : ∀ i k, hget [] i = some k → ∃ k', h (rho ρ nb i) = some k' ∧ BlkWk (rho ρ nb) k' k := fun i k ek => by simp [hget] at ek
theorem rho0 {b : Nat} {ρ : List Nat} {nb : Nat} : rho (b :: ρ) nb 0 = b := rfl
theorem rho1 {nb b : Nat} : rho [b] nb 1 = nb := rfl
theorem rhoN {nb : Nat} : rho [] nb 0 = nb := rfl
set_option maxHeartbeats 4000000 in
/-- the loop, the list not nil -/
theorem afv_loop {ss : List Ty} (hss : ss.length ≤ 1099511627776) (hrec : ∀ t ∈ ss, ∀ ys : List Int, (afv t ys).length ≤ 1099511627776 → MCall Try.prog 86 [.row 0 ys.length false, .pv t.enc] [some (rowI ys)] (.row 1 (afv t ys).length false) [none, some (rowI (afv t ys))])
    (k id : Int) {K : Fr → Hp → Prop} {Qr : Exit → Fr → Hp → Prop} (hK : ∀ fr H, awp Try.prog (AC.seq (.reg [⟨some 33, .mov (.tmp 0), none⟩, ⟨some 4, .mov (.tmp 33), none⟩]) .ret) Qr fr H → K fr H)
    (F : List Int) (hF : F.length ≤ 1099511627776) (hfin : ∀ fr, Ab.get fr 4 = .row 1 F.length false → Qr .ret fr [some ⟨false, 24, 3, [[.pv (ii k), .pv (ii id), .pv (.list 3 (encL ss))]], none⟩, some (rowI F)]) :
    ∀ (rest pre : List Ty) (ys : List Int), pre ++ rest = ss → F = afvL rest ys → loopN (awp Try.prog ac86_l0) (catch_ 0 (thn K Qr)) (rest.length + 1)
       [(25, .pv (ii pre.length)), (24, .pv (ii ss.length)), (23, .pv (.list 3 (encL ss))), (3, .ptr 0 0 0), (0, .row 1 ys.length false)]
       [some ⟨false, 24, 3, [[.pv (ii k), .pv (ii id), .pv (.list 3 (encL ss))]], none⟩, some (rowI ys)] := by
  intro rest
  induction rest with
  | nil =>
    intro pre ys hpre he
    have hpre : pre = ss := by simpa using hpre
    subst hpre
    simp only [afvL] at he
    subst he
    refine loopN_k fun K1 hK1 => ?_
    unfold ac86_l0
    (repeat' (first | ((with_reducible refine aops_cons' fun C hC => ?_); simp only [go_sem, lt_end]; (with_reducible refine finA hC ?_); clear hC C) | ((with_reducible refine aopsD_cons' fun C hC => ?_); simp only [go_sem, lt_end]; (with_reducible refine finD hC ?_); clear hC C) | ((with_reducible refine awp_seq_k fun K hK => ?_)) | ((with_reducible refine awp_reg_k fun K hK => ?_)) | ((with_reducible refine awp_dreg_k fun K hK => ?_)) | ((with_reducible refine aops_nil ?_); (with_reducible refine hK _ _ ?_); try clear hK K) | ((with_reducible refine aopsD_nil ?_); (with_reducible refine hK _ _ _ ?_ ?_); (focus (kernel_rfl)); try clear hK K) | ((with_reducible refine thn_normal ?_); (with_reducible refine hK _ _ ?_); try clear hK K) | ((with_reducible refine catch_normal ?_)) | ((with_reducible refine awp_skip_k ?_)) | ((with_reducible refine awp_ret_k ?_)) | ((with_reducible refine awp_exit_k ?_)) | ((with_reducible refine awp_block_k ?_)) | ((with_reducible refine thn_exit ?_); try clear hK K) | ((with_reducible refine thn_ret ?_); try clear hK K) | ((with_reducible refine catch_ret ?_)) | ((with_reducible refine catch_exit ?_)) | ((with_reducible refine catch_other ?_ ?_); (focus (decide))) | ((with_reducible apply aops_guard'); (focus (simp only [go_sem, lt_end]; exact rfl))) | ((with_reducible apply aopsD_guard'); (focus (simp only [go_sem, lt_end]; exact rfl))) | (first | (with_reducible refine gk_tt ?_) | (with_reducible refine gk_ff ?_)) | ((with_reducible intro C hC); simp only [go_sem, lt_end]; (first | (with_reducible refine finA hC ?_); clear hC C | (with_reducible refine finD hC ?_); clear hC C)) | ((first | (with_reducible refine gk_tf ?_) | (with_reducible refine gk_ft ?_) | (with_reducible refine gk_u ?_) | (with_reducible refine gk_u' ?_)); first | (intro _ e; (first | rw [put_some] at e | rw [put_none] at e); subst e) | (intro _ _ e e'; (first | rw [put_some] at e | rw [put_none] at e); subst e; subst e')) | ((with_reducible apply awp_cond_g); (focus (simp only [go_sem, lt_end]; exact rfl))) | (with_reducible refine ck_t ?_) | (with_reducible refine ck_f ?_)))
    exact hfin _ rfl
  | cons t rest ih =>
    intro pre ys hpre he
    have hlt : decide ((pre.length : Int) < (ss.length : Int)) = true := by subst hpre; exact lt_app _ _ _
    have hat : (encL ss)[pre.length]? = some t.enc := by subst hpre; exact encL_at _ _ _
    have hb : pre.length + 1 ≤ big := by have := congrArg List.length hpre; simp at this; unfold big; omega
    have hm : t ∈ ss := by subst hpre; simp
    have hb2 : (afv t ys).length ≤ 1099511627776 := by
      rw [he, afvL] at hF
      exact Nat.le_trans (afvL_mono rest _) hF
    refine loopN_k fun K1 hK1 => ?_
    unfold ac86_l0
    (repeat' (first | ((with_reducible refine aops_cons' fun C hC => ?_); simp only [go_sem, hlt, hat, cells_enc, pcells_enc, Ty.tc]; (with_reducible refine finA hC ?_); clear hC C) | ((with_reducible refine aopsD_cons' fun C hC => ?_); simp only [go_sem, hlt, hat, cells_enc, pcells_enc, Ty.tc]; (with_reducible refine finD hC ?_); clear hC C) | ((with_reducible refine awp_seq_k fun K hK => ?_)) | ((with_reducible refine awp_reg_k fun K hK => ?_)) | ((with_reducible refine awp_dreg_k fun K hK => ?_)) | ((with_reducible refine aops_nil ?_); (with_reducible refine hK _ _ ?_); try clear hK K) | ((with_reducible refine aopsD_nil ?_); (with_reducible refine hK _ _ _ ?_ ?_); (focus (kernel_rfl)); try clear hK K) | ((with_reducible refine thn_normal ?_); (with_reducible refine hK _ _ ?_); try clear hK K) | ((with_reducible refine catch_normal ?_)) | ((with_reducible refine awp_skip_k ?_)) | ((with_reducible refine awp_ret_k ?_)) | ((with_reducible refine awp_exit_k ?_)) | ((with_reducible refine awp_block_k ?_)) | ((with_reducible refine thn_exit ?_); try clear hK K) | ((with_reducible refine thn_ret ?_); try clear hK K) | ((with_reducible refine catch_ret ?_)) | ((with_reducible refine catch_exit ?_)) | ((with_reducible refine catch_other ?_ ?_); (focus (decide))) | ((with_reducible apply aops_guard'); (focus (simp only [go_sem, hlt, hat, cells_enc, pcells_enc, Ty.tc]; exact rfl))) | ((with_reducible apply aopsD_guard'); (focus (simp only [go_sem, hlt, hat, cells_enc, pcells_enc, Ty.tc]; exact rfl))) | (first | (with_reducible refine gk_tt ?_) | (with_reducible refine gk_ff ?_)) | ((with_reducible intro C hC); simp only [go_sem, hlt, hat, cells_enc, pcells_enc, Ty.tc]; (first | (with_reducible refine finA hC ?_); clear hC C | (with_reducible refine finD hC ?_); clear hC C)) | ((first | (with_reducible refine gk_tf ?_) | (with_reducible refine gk_ft ?_) | (with_reducible refine gk_u ?_) | (with_reducible refine gk_u' ?_)); first | (intro _ e; (first | rw [put_some] at e | rw [put_none] at e); subst e) | (intro _ _ e e'; (first | rw [put_some] at e | rw [put_none] at e); subst e; subst e')) | ((with_reducible apply awp_cond_g); (focus (simp only [go_sem, hlt, hat, cells_enc, pcells_enc, Ty.tc]; exact rfl))) | (with_reducible refine ck_t ?_) | (with_reducible refine ck_f ?_)))
    refine aops_call fun C hC => ?_
    simp only [go_sem]
    refine ACall.heap [1] (hrec t hm ys hb2) rfl (by decide) (by decide) (VM.eq (.row 0 ys.length false) _ _ (.pv _ _ _ _ (by exact vwA) .nil)) (hh_row rfl) ?_
    simp only [V.ren, rho1, outD, outB, Option.map_some, Option.map_none, renL_cI]
    (with_reducible refine finA hC ?_); clear hC C
    (repeat' (first | ((with_reducible refine aops_cons' fun C hC => ?_); simp only [go_sem]; (with_reducible refine finA hC ?_); clear hC C) | ((with_reducible refine aopsD_cons' fun C hC => ?_); simp only [go_sem]; (with_reducible refine finD hC ?_); clear hC C) | ((with_reducible refine awp_seq_k fun K hK => ?_)) | ((with_reducible refine awp_reg_k fun K hK => ?_)) | ((with_reducible refine awp_dreg_k fun K hK => ?_)) | ((with_reducible refine aops_nil ?_); (with_reducible refine hK _ _ ?_); try clear hK K) | ((with_reducible refine aopsD_nil ?_); (with_reducible refine hK _ _ _ ?_ ?_); (focus (kernel_rfl)); try clear hK K) | ((with_reducible refine thn_normal ?_); (with_reducible refine hK _ _ ?_); try clear hK K) | ((with_reducible refine catch_normal ?_)) | ((with_reducible refine awp_skip_k ?_)) | ((with_reducible refine awp_ret_k ?_)) | ((with_reducible refine awp_exit_k ?_)) | ((with_reducible refine awp_block_k ?_)) | ((with_reducible refine thn_exit ?_); try clear hK K) | ((with_reducible refine thn_ret ?_); try clear hK K) | ((with_reducible refine catch_ret ?_)) | ((with_reducible refine catch_exit ?_)) | ((with_reducible refine catch_other ?_ ?_); (focus (decide))) | ((with_reducible apply aops_guard'); (focus (simp only [go_sem]; exact rfl))) | ((with_reducible apply aopsD_guard'); (focus (simp only [go_sem]; exact rfl))) | (first | (with_reducible refine gk_tt ?_) | (with_reducible refine gk_ff ?_)) | ((with_reducible intro C hC); simp only [go_sem]; (first | (with_reducible refine finA hC ?_); clear hC C | (with_reducible refine finD hC ?_); clear hC C)) | ((first | (with_reducible refine gk_tf ?_) | (with_reducible refine gk_ft ?_) | (with_reducible refine gk_u ?_) | (with_reducible refine gk_u' ?_)); first | (intro _ e; (first | rw [put_some] at e | rw [put_none] at e); subst e) | (intro _ _ e e'; (first | rw [put_some] at e | rw [put_none] at e); subst e; subst e')) | ((with_reducible apply awp_cond_g); (focus (simp only [go_sem]; exact rfl))) | (with_reducible refine ck_t ?_) | (with_reducible refine ck_f ?_)))
    have hw := wrapS (n := pre.length) (by unfold big at hb; omega)
    refine thn_normal ?_
    refine hK1 _ _ _ _ _ (LeB [0, 3] (by refine ⟨?_, ?_, ?_⟩ <;> simp only [leFr, leFb, leHp, V.ren, V.renL, V.bd, V.bdL, allL, lt, Go.Ab.get, hget, List.map_cons, List.map_nil, List.length_cons, List.length_nil, List.length_append, List.getElem?_cons_zero, List.getElem?_cons_succ, List.getElem?_nil, Option.join_some, Option.join_none, List.getD_cons_zero, List.getD_cons_succ, List.getD_nil, Nat.reduceAdd, Nat.reduceLT, Nat.reduceEqDiff, Nat.zero_add, reduceIte, if_true, if_false, and_true, true_and, renL_vcells, allL_vcells, renL_pv, leBlk_some, eq_self, true_or, or_true, reduceCtorEq, false_or, hw, List.length_append, renL_cI, allL_cI])) (ih (pre ++ [t]) (afv t ys) (by simp [hpre]) (by simpa only [afvL] using he))
theorem tag0 {m : Nat → Nat × Nat × Nat} {F : List Int} : tagN m 1 0 [none, some (rowI F)] = [none, some (rowI F)] := rfl
set_option maxHeartbeats 4000000 in
/-- the list that comes in is not nil: it is taken over, another goes out -/
theorem afv_row : ∀ (t : Ty) (xs : List Int), (afv t xs).length ≤ 1099511627776 → t.enc.ok → MCall Try.prog 86 [.row 0 xs.length false, .pv t.enc] [some (rowI xs)] (.row 1 (afv t xs).length false) [none, some (rowI (afv t xs))]
  | .mk k id ss, xs, hbig, hok => by
    have hss : ss.length ≤ 1099511627776 := by
      simp only [Ty.enc, PV.ok, PV.okL, encL_len, big] at hok; exact hok.2.2.1.1
    have hrec : ∀ t ∈ ss, ∀ ys : List Int, (afv t ys).length ≤ 1099511627776 → MCall Try.prog 86 [.row 0 ys.length false, .pv t.enc] [some (rowI ys)] (.row 1 (afv t ys).length false) [none, some (rowI (afv t ys))] := fun t ht ys h => afv_row t ys h (ok_mem hok ht)
    refine MCall.intro fn86 (by simp) (by simp) (by simp) (LV_one xs) (HpOk_row xs) (HpOk_row1 _) ⟨⟨_, rfl⟩, trivial, trivial⟩ ⟨_, rfl⟩ fun m => ?_
    have hc := hasI_ok xs id
    unfold ac86
    simp only [argFrV, tagN, Option.map_some, List.length_cons, List.length_nil, Nat.zero_add, Nat.zero_lt_one, if_true]
    have hF : afv (.mk k id ss) xs = afvL ss (if (if k == 1 then !(xs.any fun x => id == x) else false) then xs ++ [id] else xs) := by simp only [afv]
    cases hk : (k == 1) with
    | false =>
      simp only [hk, Bool.false_eq_true, if_false] at hF
      (repeat' (first | ((with_reducible refine aops_cons' fun C hC => ?_); simp only [go_sem, cells_enc, Ty.tc, Ty.kd, Ty.id, Ty.args, hk, encL_len]; (with_reducible refine finA hC ?_); clear hC C) | ((with_reducible refine aopsD_cons' fun C hC => ?_); simp only [go_sem, cells_enc, Ty.tc, Ty.kd, Ty.id, Ty.args, hk, encL_len]; (with_reducible refine finD hC ?_); clear hC C) | ((with_reducible refine awp_seq_k fun K hK => ?_)) | ((with_reducible refine awp_reg_k fun K hK => ?_)) | ((with_reducible refine awp_dreg_k fun K hK => ?_)) | ((with_reducible refine aops_nil ?_); (with_reducible refine hK _ _ ?_); try clear hK K) | ((with_reducible refine aopsD_nil ?_); (with_reducible refine hK _ _ _ ?_ ?_); (focus (kernel_rfl)); try clear hK K) | ((with_reducible refine thn_normal ?_); (with_reducible refine hK _ _ ?_); try clear hK K) | ((with_reducible refine catch_normal ?_)) | ((with_reducible refine awp_skip_k ?_)) | ((with_reducible refine awp_ret_k ?_)) | ((with_reducible refine awp_exit_k ?_)) | ((with_reducible refine awp_block_k ?_)) | ((with_reducible refine thn_exit ?_); try clear hK K) | ((with_reducible refine thn_ret ?_); try clear hK K) | ((with_reducible refine catch_ret ?_)) | ((with_reducible refine catch_exit ?_)) | ((with_reducible refine catch_other ?_ ?_); (focus (decide))) | ((with_reducible apply aops_guard'); (focus (simp only [go_sem, cells_enc, Ty.tc, Ty.kd, Ty.id, Ty.args, hk, encL_len]; exact rfl))) | ((with_reducible apply aopsD_guard'); (focus (simp only [go_sem, cells_enc, Ty.tc, Ty.kd, Ty.id, Ty.args, hk, encL_len]; exact rfl))) | (first | (with_reducible refine gk_tt ?_) | (with_reducible refine gk_ff ?_)) | ((with_reducible intro C hC); simp only [go_sem, cells_enc, Ty.tc, Ty.kd, Ty.id, Ty.args, hk, encL_len]; (first | (with_reducible refine finA hC ?_); clear hC C | (with_reducible refine finD hC ?_); clear hC C)) | ((first | (with_reducible refine gk_tf ?_) | (with_reducible refine gk_ft ?_) | (with_reducible refine gk_u ?_) | (with_reducible refine gk_u' ?_)); first | (intro _ e; (first | rw [put_some] at e | rw [put_none] at e); subst e) | (intro _ _ e e'; (first | rw [put_some] at e | rw [put_none] at e); subst e; subst e')) | ((with_reducible apply awp_cond_g); (focus (simp only [go_sem, cells_enc, Ty.tc, Ty.kd, Ty.id, Ty.args, hk, encL_len]; exact rfl))) | (with_reducible refine ck_t ?_) | (with_reducible refine ck_f ?_)))
      refine awp_loop_k _ (LeB [1, 0] (by refine ⟨?_, ?_, ?_⟩ <;> simp only [leFr, leFb, leHp, V.ren, V.renL, V.bd, V.bdL, allL, lt, Go.Ab.get, hget, List.map_cons, List.map_nil, List.length_cons, List.length_nil, List.length_append, List.getElem?_cons_zero, List.getElem?_cons_succ, List.getElem?_nil, Option.join_some, Option.join_none, List.getD_cons_zero, List.getD_cons_succ, List.getD_nil, Nat.reduceAdd, Nat.reduceLT, Nat.reduceEqDiff, Nat.zero_add, reduceIte, if_true, if_false, and_true, true_and, renL_vcells, allL_vcells, renL_pv, leBlk_some, eq_self, true_or, or_true, reduceCtorEq, false_or, c0, renL_cI, allL_cI])) (afv_loop hss hrec k id hK _ hbig (fun fr e => ⟨_, rfl, fun b => [0, 1].getD b 0, ?_⟩) ss [] xs rfl hF)
      rw [tag0, e]
      exact (LeB [0, 1] (by refine ⟨?_, ?_, ?_⟩ <;> simp only [leFr, leFb, leHp, V.ren, V.renL, V.bd, V.bdL, allL, lt, Go.Ab.get, hget, List.map_cons, List.map_nil, List.length_cons, List.length_nil, List.length_append, List.getElem?_cons_zero, List.getElem?_cons_succ, List.getElem?_nil, Option.join_some, Option.join_none, List.getD_cons_zero, List.getD_cons_succ, List.getD_nil, Nat.reduceAdd, Nat.reduceLT, Nat.reduceEqDiff, Nat.zero_add, reduceIte, if_true, if_false, and_true, true_and, renL_vcells, allL_vcells, renL_pv, leBlk_some, eq_self, true_or, or_true, reduceCtorEq, false_or, renL_cI, allL_cI, oneW]))
    | true =>
      cases hm : (xs.any fun x => id == x) with
      | true =>
        rw [hm] at hc
        simp only [hk, hm, Bool.false_eq_true, if_false, if_true, Bool.not_true] at hF
        (repeat' (first | ((first | (with_reducible refine aops_call fun C hC => ?_) | (with_reducible refine aopsD_call fun C hC => ?_) | ((with_reducible intro C hC); (with_reducible refine ax_call_mp ?_))); (first | (simp only [go_sem, cells_enc, Ty.tc, Ty.kd, Ty.id, Ty.args, hk, encL_len]; (first | ((with_reducible apply ACall.pure0 [0] (hc)); (focus (exact vwA)))))); (simp only [PV.scal, PV.scalL, if_true, Bool.and_true, Bool.and_false, Bool.false_and, Bool.true_and, frz, List.map_nil, Bool.false_eq_true, if_false, ite_self, go_sem, cells_enc, Ty.tc, Ty.kd, Ty.id, Ty.args, hk, encL_len]); (first | (with_reducible refine finA hC ?_); clear hC C | (with_reducible refine finD hC ?_); clear hC C)) | ((with_reducible refine aops_cons' fun C hC => ?_); simp only [go_sem, cells_enc, Ty.tc, Ty.kd, Ty.id, Ty.args, hk, encL_len]; (with_reducible refine finA hC ?_); clear hC C) | ((with_reducible refine aopsD_cons' fun C hC => ?_); simp only [go_sem, cells_enc, Ty.tc, Ty.kd, Ty.id, Ty.args, hk, encL_len]; (with_reducible refine finD hC ?_); clear hC C) | ((with_reducible refine awp_seq_k fun K hK => ?_)) | ((with_reducible refine awp_reg_k fun K hK => ?_)) | ((with_reducible refine awp_dreg_k fun K hK => ?_)) | ((with_reducible refine aops_nil ?_); (with_reducible refine hK _ _ ?_); try clear hK K) | ((with_reducible refine aopsD_nil ?_); (with_reducible refine hK _ _ _ ?_ ?_); (focus (kernel_rfl)); try clear hK K) | ((with_reducible refine thn_normal ?_); (with_reducible refine hK _ _ ?_); try clear hK K) | ((with_reducible refine catch_normal ?_)) | ((with_reducible refine awp_skip_k ?_)) | ((with_reducible refine awp_ret_k ?_)) | ((with_reducible refine awp_exit_k ?_)) | ((with_reducible refine awp_block_k ?_)) | ((with_reducible refine thn_exit ?_); try clear hK K) | ((with_reducible refine thn_ret ?_); try clear hK K) | ((with_reducible refine catch_ret ?_)) | ((with_reducible refine catch_exit ?_)) | ((with_reducible refine catch_other ?_ ?_); (focus (decide))) | ((with_reducible apply aops_guard'); (focus (simp only [go_sem, cells_enc, Ty.tc, Ty.kd, Ty.id, Ty.args, hk, encL_len]; exact rfl))) | ((with_reducible apply aopsD_guard'); (focus (simp only [go_sem, cells_enc, Ty.tc, Ty.kd, Ty.id, Ty.args, hk, encL_len]; exact rfl))) | (first | (with_reducible refine gk_tt ?_) | (with_reducible refine gk_ff ?_)) | ((with_reducible intro C hC); simp only [go_sem, cells_enc, Ty.tc, Ty.kd, Ty.id, Ty.args, hk, encL_len]; (first | (with_reducible refine finA hC ?_); clear hC C | (with_reducible refine finD hC ?_); clear hC C)) | ((first | (with_reducible refine gk_tf ?_) | (with_reducible refine gk_ft ?_) | (with_reducible refine gk_u ?_) | (with_reducible refine gk_u' ?_)); first | (intro _ e; (first | rw [put_some] at e | rw [put_none] at e); subst e) | (intro _ _ e e'; (first | rw [put_some] at e | rw [put_none] at e); subst e; subst e')) | ((with_reducible apply awp_cond_g); (focus (simp only [go_sem, cells_enc, Ty.tc, Ty.kd, Ty.id, Ty.args, hk, encL_len]; exact rfl))) | (with_reducible refine ck_t ?_) | (with_reducible refine ck_f ?_)))
        refine awp_loop_k _ (LeB [1, 0] (by refine ⟨?_, ?_, ?_⟩ <;> simp only [leFr, leFb, leHp, V.ren, V.renL, V.bd, V.bdL, allL, lt, Go.Ab.get, hget, List.map_cons, List.map_nil, List.length_cons, List.length_nil, List.length_append, List.getElem?_cons_zero, List.getElem?_cons_succ, List.getElem?_nil, Option.join_some, Option.join_none, List.getD_cons_zero, List.getD_cons_succ, List.getD_nil, Nat.reduceAdd, Nat.reduceLT, Nat.reduceEqDiff, Nat.zero_add, reduceIte, if_true, if_false, and_true, true_and, renL_vcells, allL_vcells, renL_pv, leBlk_some, eq_self, true_or, or_true, reduceCtorEq, false_or, c0, renL_cI, allL_cI])) (afv_loop hss hrec k id hK _ hbig (fun fr e => ⟨_, rfl, fun b => [0, 1].getD b 0, ?_⟩) ss [] xs rfl hF)
        rw [tag0, e]
        exact (LeB [0, 1] (by refine ⟨?_, ?_, ?_⟩ <;> simp only [leFr, leFb, leHp, V.ren, V.renL, V.bd, V.bdL, allL, lt, Go.Ab.get, hget, List.map_cons, List.map_nil, List.length_cons, List.length_nil, List.length_append, List.getElem?_cons_zero, List.getElem?_cons_succ, List.getElem?_nil, Option.join_some, Option.join_none, List.getD_cons_zero, List.getD_cons_succ, List.getD_nil, Nat.reduceAdd, Nat.reduceLT, Nat.reduceEqDiff, Nat.zero_add, reduceIte, if_true, if_false, and_true, true_and, renL_vcells, allL_vcells, renL_pv, leBlk_some, eq_self, true_or, or_true, reduceCtorEq, false_or, renL_cI, allL_cI, oneW]))
      | false =>
        rw [hm] at hc
        simp only [hk, hm, Bool.false_eq_true, if_false, if_true, Bool.not_false] at hF
        have hl1 : xs.length + 1 ≤ big := by
          have := afvL_mono ss (xs ++ [id])
          rw [← hF] at this
          simp at this; unfold big; omega
        (repeat' (first | ((first | (with_reducible refine aops_call fun C hC => ?_) | (with_reducible refine aopsD_call fun C hC => ?_) | ((with_reducible intro C hC); (with_reducible refine ax_call_mp ?_))); (first | (simp only [go_sem, cells_enc, Ty.tc, Ty.kd, Ty.id, Ty.args, hk, encL_len, List.length_map, hl1]; (first | ((with_reducible apply ACall.pure0 [0] (hc)); (focus (exact vwA)))))); (simp only [PV.scal, PV.scalL, if_true, Bool.and_true, Bool.and_false, Bool.false_and, Bool.true_and, frz, List.map_nil, Bool.false_eq_true, if_false, ite_self, go_sem, cells_enc, Ty.tc, Ty.kd, Ty.id, Ty.args, hk, encL_len, List.length_map, hl1]); (first | (with_reducible refine finA hC ?_); clear hC C | (with_reducible refine finD hC ?_); clear hC C)) | ((with_reducible refine aops_cons' fun C hC => ?_); simp only [go_sem, cells_enc, Ty.tc, Ty.kd, Ty.id, Ty.args, hk, encL_len, List.length_map, hl1]; (with_reducible refine finA hC ?_); clear hC C) | ((with_reducible refine aopsD_cons' fun C hC => ?_); simp only [go_sem, cells_enc, Ty.tc, Ty.kd, Ty.id, Ty.args, hk, encL_len, List.length_map, hl1]; (with_reducible refine finD hC ?_); clear hC C) | ((with_reducible refine awp_seq_k fun K hK => ?_)) | ((with_reducible refine awp_reg_k fun K hK => ?_)) | ((with_reducible refine awp_dreg_k fun K hK => ?_)) | ((with_reducible refine aops_nil ?_); (with_reducible refine hK _ _ ?_); try clear hK K) | ((with_reducible refine aopsD_nil ?_); (with_reducible refine hK _ _ _ ?_ ?_); (focus (kernel_rfl)); try clear hK K) | ((with_reducible refine thn_normal ?_); (with_reducible refine hK _ _ ?_); try clear hK K) | ((with_reducible refine catch_normal ?_)) | ((with_reducible refine awp_skip_k ?_)) | ((with_reducible refine awp_ret_k ?_)) | ((with_reducible refine awp_exit_k ?_)) | ((with_reducible refine awp_block_k ?_)) | ((with_reducible refine thn_exit ?_); try clear hK K) | ((with_reducible refine thn_ret ?_); try clear hK K) | ((with_reducible refine catch_ret ?_)) | ((with_reducible refine catch_exit ?_)) | ((with_reducible refine catch_other ?_ ?_); (focus (decide))) | ((with_reducible apply aops_guard'); (focus (simp only [go_sem, cells_enc, Ty.tc, Ty.kd, Ty.id, Ty.args, hk, encL_len, List.length_map, hl1]; exact rfl))) | ((with_reducible apply aopsD_guard'); (focus (simp only [go_sem, cells_enc, Ty.tc, Ty.kd, Ty.id, Ty.args, hk, encL_len, List.length_map, hl1]; exact rfl))) | (first | (with_reducible refine gk_tt ?_) | (with_reducible refine gk_ff ?_)) | ((with_reducible intro C hC); simp only [go_sem, cells_enc, Ty.tc, Ty.kd, Ty.id, Ty.args, hk, encL_len, List.length_map, hl1]; (first | (with_reducible refine finA hC ?_); clear hC C | (with_reducible refine finD hC ?_); clear hC C)) | ((first | (with_reducible refine gk_tf ?_) | (with_reducible refine gk_ft ?_) | (with_reducible refine gk_u ?_) | (with_reducible refine gk_u' ?_)); first | (intro _ e; (first | rw [put_some] at e | rw [put_none] at e); subst e) | (intro _ _ e e'; (first | rw [put_some] at e | rw [put_none] at e); subst e; subst e')) | ((with_reducible apply awp_cond_g); (focus (simp only [go_sem, cells_enc, Ty.tc, Ty.kd, Ty.id, Ty.args, hk, encL_len, List.length_map, hl1]; exact rfl))) | (with_reducible refine ck_t ?_) | (with_reducible refine ck_f ?_)))
        refine awp_loop_k _ (LeB [1, 3] (by refine ⟨?_, ?_, ?_⟩ <;> simp only [leFr, leFb, leHp, V.ren, V.renL, V.bd, V.bdL, allL, lt, Go.Ab.get, hget, List.map_cons, List.map_nil, List.length_cons, List.length_nil, List.length_append, List.getElem?_cons_zero, List.getElem?_cons_succ, List.getElem?_nil, Option.join_some, Option.join_none, List.getD_cons_zero, List.getD_cons_succ, List.getD_nil, Nat.reduceAdd, Nat.reduceLT, Nat.reduceEqDiff, Nat.zero_add, reduceIte, if_true, if_false, and_true, true_and, renL_vcells, allL_vcells, renL_pv, leBlk_some, eq_self, true_or, or_true, reduceCtorEq, false_or, c0, renL_cI, allL_cI, List.map_append, cI, allL_app])) (afv_loop hss hrec k id hK _ hbig (fun fr e => ⟨_, rfl, fun b => [0, 1].getD b 0, ?_⟩) ss [] (xs ++ [id]) rfl hF)
        rw [tag0, e]
        exact (LeB [0, 1] (by refine ⟨?_, ?_, ?_⟩ <;> simp only [leFr, leFb, leHp, V.ren, V.renL, V.bd, V.bdL, allL, lt, Go.Ab.get, hget, List.map_cons, List.map_nil, List.length_cons, List.length_nil, List.length_append, List.getElem?_cons_zero, List.getElem?_cons_succ, List.getElem?_nil, Option.join_some, Option.join_none, List.getD_cons_zero, List.getD_cons_succ, List.getD_nil, Nat.reduceAdd, Nat.reduceLT, Nat.reduceEqDiff, Nat.zero_add, reduceIte, if_true, if_false, and_true, true_and, renL_vcells, allL_vcells, renL_pv, leBlk_some, eq_self, true_or, or_true, reduceCtorEq, false_or, renL_cI, allL_cI, oneW]))
termination_by t => SizeOf.sizeOf t
decreasing_by
  have := List.sizeOf_lt_of_mem ht
  simp only [Ty.mk.sizeOf_spec]; omega
def outV : List Int → V
  | [] => .pv (.lit (.slice none 0 0))
  | x :: xs => .row 0 (x :: xs).length false
def outH : List Int → Hp
  | [] => []
  | x :: xs => [some (rowI (x :: xs))]
theorem ret_row {rs : List RV} {F : List Int} {m : Nat → Nat × Nat × Nat} {fr : Fr} {T : Blk} (hr : resVs fr [some T, some (rowI F)] rs = some [.row 1 F.length false]) (hne : F ≠ []) : retM rs (outV F) 0 (outH F) m .ret fr [some T, some (rowI F)] := by
  cases F with
  | nil => exact absurd rfl hne
  | cons x xs =>
    refine ⟨_, hr, fun b => [1].getD b 0, ?_⟩
    simp only [outV, outH, tagN, Option.map_some, Nat.lt_irrefl, if_false]
    exact (LeB [1] (by refine ⟨?_, ?_, ?_⟩ <;> simp only [leFr, leFb, leHp, V.ren, V.renL, V.bd, V.bdL, allL, lt, Go.Ab.get, hget, List.map_cons, List.map_nil, List.length_cons, List.length_nil, List.length_append, List.getElem?_cons_zero, List.getElem?_cons_succ, List.getElem?_nil, Option.join_some, Option.join_none, List.getD_cons_zero, List.getD_cons_succ, List.getD_nil, Nat.reduceAdd, Nat.reduceLT, Nat.reduceEqDiff, Nat.zero_add, reduceIte, if_true, if_false, and_true, true_and, renL_vcells, allL_vcells, renL_pv, leBlk_some, eq_self, true_or, or_true, reduceCtorEq, false_or, renL_cI, renL_cI1, allL_cI, bdL_cI1, allL_app, List.map_cons, allL, oneW]))
theorem ret_nil {rs : List RV} {m : Nat → Nat × Nat × Nat} {fr : Fr} {H : Hp} (hr : resVs fr H rs = some [.pv (.lit (.slice none 0 0))]) : retM rs (outV []) 0 (outH []) m .ret fr H := by
  refine ⟨_, hr, fun b => [].getD b 0, ?_⟩
  simp only [outV, outH, tagN]
  exact (LeB [] (by refine ⟨?_, ?_, ?_⟩ <;> simp only [leFr, leFb, leHp, V.ren, V.renL, V.bd, V.bdL, allL, lt, Go.Ab.get, hget, List.map_cons, List.map_nil, List.length_cons, List.length_nil, List.length_append, List.getElem?_cons_zero, List.getElem?_cons_succ, List.getElem?_nil, Option.join_some, Option.join_none, List.getD_cons_zero, List.getD_cons_succ, List.getD_nil, Nat.reduceAdd, Nat.reduceLT, Nat.reduceEqDiff, Nat.zero_add, reduceIte, if_true, if_false, and_true, true_and, renL_vcells, allL_vcells, renL_pv, leBlk_some, eq_self, true_or, or_true, reduceCtorEq, false_or, oneW]))
set_option maxHeartbeats 4000000 in
/-- the loop, the list nil -/
theorem afv_loop0 {ss : List Ty} (hss : ss.length ≤ 1099511627776) (hrec : ∀ t ∈ ss, ∀ ys : List Int, (afv t ys).length ≤ 1099511627776 → MCall Try.prog 86 [.row 0 ys.length false, .pv t.enc] [some (rowI ys)] (.row 1 (afv t ys).length false) [none, some (rowI (afv t ys))])
    (hrec0 : ∀ t ∈ ss, (afv t []).length ≤ 1099511627776 → MCall Try.prog 86 [.pv (.lit (.slice none 0 0)), .pv t.enc] [] (outV (afv t [])) (outH (afv t [])))
    (k id : Int) {K : Fr → Hp → Prop} {Qr : Exit → Fr → Hp → Prop} (hK : ∀ fr H, awp Try.prog (AC.seq (.reg [⟨some 33, .mov (.tmp 0), none⟩, ⟨some 4, .mov (.tmp 33), none⟩]) .ret) Qr fr H → K fr H)
    (F : List Int) (hF : F.length ≤ 1099511627776) (hfin : ∀ fr, F ≠ [] → Ab.get fr 4 = .row 1 F.length false → Qr .ret fr [some ⟨false, 24, 3, [[.pv (ii k), .pv (ii id), .pv (.list 3 (encL ss))]], none⟩, some (rowI F)])
    (hfin0 : ∀ fr H, F = [] → Ab.get fr 4 = .pv (.lit (.slice none 0 0)) → Qr .ret fr H) :
    ∀ (rest pre : List Ty), pre ++ rest = ss → F = afvL rest [] → loopN (awp Try.prog ac86_l0) (catch_ 0 (thn K Qr)) (rest.length + 1)
       [(25, .pv (ii pre.length)), (24, .pv (ii ss.length)), (23, .pv (.list 3 (encL ss))), (3, .ptr 0 0 0), (0, .pv (.lit (.slice none 0 0)))]
       [some ⟨false, 24, 3, [[.pv (ii k), .pv (ii id), .pv (.list 3 (encL ss))]], none⟩] := by
  intro rest
  induction rest with
  | nil =>
    intro pre hpre he
    have hpre : pre = ss := by simpa using hpre
    subst hpre
    simp only [afvL] at he
    refine loopN_k fun K1 hK1 => ?_
    unfold ac86_l0
    (repeat' (first | ((with_reducible refine aops_cons' fun C hC => ?_); simp only [go_sem, lt_end]; (with_reducible refine finA hC ?_); clear hC C) | ((with_reducible refine aopsD_cons' fun C hC => ?_); simp only [go_sem, lt_end]; (with_reducible refine finD hC ?_); clear hC C) | ((with_reducible refine awp_seq_k fun K hK => ?_)) | ((with_reducible refine awp_reg_k fun K hK => ?_)) | ((with_reducible refine awp_dreg_k fun K hK => ?_)) | ((with_reducible refine aops_nil ?_); (with_reducible refine hK _ _ ?_); try clear hK K) | ((with_reducible refine aopsD_nil ?_); (with_reducible refine hK _ _ _ ?_ ?_); (focus (kernel_rfl)); try clear hK K) | ((with_reducible refine thn_normal ?_); (with_reducible refine hK _ _ ?_); try clear hK K) | ((with_reducible refine catch_normal ?_)) | ((with_reducible refine awp_skip_k ?_)) | ((with_reducible refine awp_ret_k ?_)) | ((with_reducible refine awp_exit_k ?_)) | ((with_reducible refine awp_block_k ?_)) | ((with_reducible refine thn_exit ?_); try clear hK K) | ((with_reducible refine thn_ret ?_); try clear hK K) | ((with_reducible refine catch_ret ?_)) | ((with_reducible refine catch_exit ?_)) | ((with_reducible refine catch_other ?_ ?_); (focus (decide))) | ((with_reducible apply aops_guard'); (focus (simp only [go_sem, lt_end]; exact rfl))) | ((with_reducible apply aopsD_guard'); (focus (simp only [go_sem, lt_end]; exact rfl))) | (first | (with_reducible refine gk_tt ?_) | (with_reducible refine gk_ff ?_)) | ((with_reducible intro C hC); simp only [go_sem, lt_end]; (first | (with_reducible refine finA hC ?_); clear hC C | (with_reducible refine finD hC ?_); clear hC C)) | ((first | (with_reducible refine gk_tf ?_) | (with_reducible refine gk_ft ?_) | (with_reducible refine gk_u ?_) | (with_reducible refine gk_u' ?_)); first | (intro _ e; (first | rw [put_some] at e | rw [put_none] at e); subst e) | (intro _ _ e e'; (first | rw [put_some] at e | rw [put_none] at e); subst e; subst e')) | ((with_reducible apply awp_cond_g); (focus (simp only [go_sem, lt_end]; exact rfl))) | (with_reducible refine ck_t ?_) | (with_reducible refine ck_f ?_)))
    exact hfin0 _ _ he rfl
  | cons t rest ih =>
    intro pre hpre he
    have hlt : decide ((pre.length : Int) < (ss.length : Int)) = true := by subst hpre; exact lt_app _ _ _
    have hat : (encL ss)[pre.length]? = some t.enc := by subst hpre; exact encL_at _ _ _
    have hb : pre.length + 1 ≤ big := by have := congrArg List.length hpre; simp at this; unfold big; omega
    have hw := wrapS (n := pre.length) (by unfold big at hb; omega)
    have hm : t ∈ ss := by subst hpre; simp
    have hb2 : (afv t []).length ≤ 1099511627776 := by
      rw [he, afvL] at hF
      exact Nat.le_trans (afvL_mono rest _) hF
    have hc := hrec0 t hm hb2
    have hne : ∀ y ys, afv t [] = y :: ys → F ≠ [] := fun y ys e hn => by
      have := afvL_mono rest (afv t [])
      rw [hn, afvL] at he
      rw [← he, e] at this; simp at this
    refine loopN_k fun K1 hK1 => ?_
    unfold ac86_l0
    (repeat' (first | ((with_reducible refine aops_cons' fun C hC => ?_); simp only [go_sem, hlt, hat, cells_enc, pcells_enc, Ty.tc]; (with_reducible refine finA hC ?_); clear hC C) | ((with_reducible refine aopsD_cons' fun C hC => ?_); simp only [go_sem, hlt, hat, cells_enc, pcells_enc, Ty.tc]; (with_reducible refine finD hC ?_); clear hC C) | ((with_reducible refine awp_seq_k fun K hK => ?_)) | ((with_reducible refine awp_reg_k fun K hK => ?_)) | ((with_reducible refine awp_dreg_k fun K hK => ?_)) | ((with_reducible refine aops_nil ?_); (with_reducible refine hK _ _ ?_); try clear hK K) | ((with_reducible refine aopsD_nil ?_); (with_reducible refine hK _ _ _ ?_ ?_); (focus (kernel_rfl)); try clear hK K) | ((with_reducible refine thn_normal ?_); (with_reducible refine hK _ _ ?_); try clear hK K) | ((with_reducible refine catch_normal ?_)) | ((with_reducible refine awp_skip_k ?_)) | ((with_reducible refine awp_ret_k ?_)) | ((with_reducible refine awp_exit_k ?_)) | ((with_reducible refine awp_block_k ?_)) | ((with_reducible refine thn_exit ?_); try clear hK K) | ((with_reducible refine thn_ret ?_); try clear hK K) | ((with_reducible refine catch_ret ?_)) | ((with_reducible refine catch_exit ?_)) | ((with_reducible refine catch_other ?_ ?_); (focus (decide))) | ((with_reducible apply aops_guard'); (focus (simp only [go_sem, hlt, hat, cells_enc, pcells_enc, Ty.tc]; exact rfl))) | ((with_reducible apply aopsD_guard'); (focus (simp only [go_sem, hlt, hat, cells_enc, pcells_enc, Ty.tc]; exact rfl))) | (first | (with_reducible refine gk_tt ?_) | (with_reducible refine gk_ff ?_)) | ((with_reducible intro C hC); simp only [go_sem, hlt, hat, cells_enc, pcells_enc, Ty.tc]; (first | (with_reducible refine finA hC ?_); clear hC C | (with_reducible refine finD hC ?_); clear hC C)) | ((first | (with_reducible refine gk_tf ?_) | (with_reducible refine gk_ft ?_) | (with_reducible refine gk_u ?_) | (with_reducible refine gk_u' ?_)); first | (intro _ e; (first | rw [put_some] at e | rw [put_none] at e); subst e) | (intro _ _ e e'; (first | rw [put_some] at e | rw [put_none] at e); subst e; subst e')) | ((with_reducible apply awp_cond_g); (focus (simp only [go_sem, hlt, hat, cells_enc, pcells_enc, Ty.tc]; exact rfl))) | (with_reducible refine ck_t ?_) | (with_reducible refine ck_f ?_)))
    cases hy : afv t [] with
    | nil =>
      rw [hy] at hc
      refine aops_call fun C hC => ?_
      simp only [go_sem]
      refine ACall.heap [] hc rfl (by decide) (by decide) (VM.eq (.pv (.lit (.slice none 0 0))) _ _ (.pv _ _ _ _ (by exact vwA) .nil)) hh_nil ?_
      simp only [V.ren, outV, outH, outD]
      (with_reducible refine finA hC ?_); clear hC C
      (repeat' (first | ((with_reducible refine aops_cons' fun C hC => ?_); simp only [go_sem]; (with_reducible refine finA hC ?_); clear hC C) | ((with_reducible refine aopsD_cons' fun C hC => ?_); simp only [go_sem]; (with_reducible refine finD hC ?_); clear hC C) | ((with_reducible refine awp_seq_k fun K hK => ?_)) | ((with_reducible refine awp_reg_k fun K hK => ?_)) | ((with_reducible refine awp_dreg_k fun K hK => ?_)) | ((with_reducible refine aops_nil ?_); (with_reducible refine hK _ _ ?_); try clear hK K) | ((with_reducible refine aopsD_nil ?_); (with_reducible refine hK _ _ _ ?_ ?_); (focus (kernel_rfl)); try clear hK K) | ((with_reducible refine thn_normal ?_); (with_reducible refine hK _ _ ?_); try clear hK K) | ((with_reducible refine catch_normal ?_)) | ((with_reducible refine awp_skip_k ?_)) | ((with_reducible refine awp_ret_k ?_)) | ((with_reducible refine awp_exit_k ?_)) | ((with_reducible refine awp_block_k ?_)) | ((with_reducible refine thn_exit ?_); try clear hK K) | ((with_reducible refine thn_ret ?_); try clear hK K) | ((with_reducible refine catch_ret ?_)) | ((with_reducible refine catch_exit ?_)) | ((with_reducible refine catch_other ?_ ?_); (focus (decide))) | ((with_reducible apply aops_guard'); (focus (simp only [go_sem]; exact rfl))) | ((with_reducible apply aopsD_guard'); (focus (simp only [go_sem]; exact rfl))) | (first | (with_reducible refine gk_tt ?_) | (with_reducible refine gk_ff ?_)) | ((with_reducible intro C hC); simp only [go_sem]; (first | (with_reducible refine finA hC ?_); clear hC C | (with_reducible refine finD hC ?_); clear hC C)) | ((first | (with_reducible refine gk_tf ?_) | (with_reducible refine gk_ft ?_) | (with_reducible refine gk_u ?_) | (with_reducible refine gk_u' ?_)); first | (intro _ e; (first | rw [put_some] at e | rw [put_none] at e); subst e) | (intro _ _ e e'; (first | rw [put_some] at e | rw [put_none] at e); subst e; subst e')) | ((with_reducible apply awp_cond_g); (focus (simp only [go_sem]; exact rfl))) | (with_reducible refine ck_t ?_) | (with_reducible refine ck_f ?_)))
      refine thn_normal ?_
      refine hK1 _ _ _ _ _ (LeB [0] (by refine ⟨?_, ?_, ?_⟩ <;> simp only [leFr, leFb, leHp, V.ren, V.renL, V.bd, V.bdL, allL, lt, Go.Ab.get, hget, List.map_cons, List.map_nil, List.length_cons, List.length_nil, List.length_append, List.getElem?_cons_zero, List.getElem?_cons_succ, List.getElem?_nil, Option.join_some, Option.join_none, List.getD_cons_zero, List.getD_cons_succ, List.getD_nil, Nat.reduceAdd, Nat.reduceLT, Nat.reduceEqDiff, Nat.zero_add, reduceIte, if_true, if_false, and_true, true_and, renL_vcells, allL_vcells, renL_pv, leBlk_some, eq_self, true_or, or_true, reduceCtorEq, false_or, hw, List.length_append])) (ih (pre ++ [t]) (by simp [hpre]) (by simpa only [afvL, hy] using he))
    | cons y ys =>
      rw [hy] at hc
      refine aops_call fun C hC => ?_
      simp only [go_sem]
      refine ACall.heap [] hc rfl (by decide) (by decide) (VM.eq (.pv (.lit (.slice none 0 0))) _ _ (.pv _ _ _ _ (by exact vwA) .nil)) hh_nil ?_
      simp only [V.ren, outV, outH, outD, rhoN, Option.map_some, renL_cI]
      (with_reducible refine finA hC ?_); clear hC C
      (repeat' (first | ((with_reducible refine aops_cons' fun C hC => ?_); simp only [go_sem]; (with_reducible refine finA hC ?_); clear hC C) | ((with_reducible refine aopsD_cons' fun C hC => ?_); simp only [go_sem]; (with_reducible refine finD hC ?_); clear hC C) | ((with_reducible refine awp_seq_k fun K hK => ?_)) | ((with_reducible refine awp_reg_k fun K hK => ?_)) | ((with_reducible refine awp_dreg_k fun K hK => ?_)) | ((with_reducible refine aops_nil ?_); (with_reducible refine hK _ _ ?_); try clear hK K) | ((with_reducible refine aopsD_nil ?_); (with_reducible refine hK _ _ _ ?_ ?_); (focus (kernel_rfl)); try clear hK K) | ((with_reducible refine thn_normal ?_); (with_reducible refine hK _ _ ?_); try clear hK K) | ((with_reducible refine catch_normal ?_)) | ((with_reducible refine awp_skip_k ?_)) | ((with_reducible refine awp_ret_k ?_)) | ((with_reducible refine awp_exit_k ?_)) | ((with_reducible refine awp_block_k ?_)) | ((with_reducible refine thn_exit ?_); try clear hK K) | ((with_reducible refine thn_ret ?_); try clear hK K) | ((with_reducible refine catch_ret ?_)) | ((with_reducible refine catch_exit ?_)) | ((with_reducible refine catch_other ?_ ?_); (focus (decide))) | ((with_reducible apply aops_guard'); (focus (simp only [go_sem]; exact rfl))) | ((with_reducible apply aopsD_guard'); (focus (simp only [go_sem]; exact rfl))) | (first | (with_reducible refine gk_tt ?_) | (with_reducible refine gk_ff ?_)) | ((with_reducible intro C hC); simp only [go_sem]; (first | (with_reducible refine finA hC ?_); clear hC C | (with_reducible refine finD hC ?_); clear hC C)) | ((first | (with_reducible refine gk_tf ?_) | (with_reducible refine gk_ft ?_) | (with_reducible refine gk_u ?_) | (with_reducible refine gk_u' ?_)); first | (intro _ e; (first | rw [put_some] at e | rw [put_none] at e); subst e) | (intro _ _ e e'; (first | rw [put_some] at e | rw [put_none] at e); subst e; subst e')) | ((with_reducible apply awp_cond_g); (focus (simp only [go_sem]; exact rfl))) | (with_reducible refine ck_t ?_) | (with_reducible refine ck_f ?_)))
      refine thn_normal ?_
      refine hK1 _ _ _ _ _ (LeB [0, 2] (by refine ⟨?_, ?_, ?_⟩ <;> simp only [leFr, leFb, leHp, V.ren, V.renL, V.bd, V.bdL, allL, lt, Go.Ab.get, hget, List.map_cons, List.map_nil, List.length_cons, List.length_nil, List.length_append, List.getElem?_cons_zero, List.getElem?_cons_succ, List.getElem?_nil, Option.join_some, Option.join_none, List.getD_cons_zero, List.getD_cons_succ, List.getD_nil, Nat.reduceAdd, Nat.reduceLT, Nat.reduceEqDiff, Nat.zero_add, reduceIte, if_true, if_false, and_true, true_and, renL_vcells, allL_vcells, renL_pv, leBlk_some, eq_self, true_or, or_true, reduceCtorEq, false_or, hw, List.length_append, renL_cI, renL_cI1, allL_cI, bdL_cI1, allL_app, List.map_cons, allL])) (afv_loop hss hrec k id hK F hF (fun fr e => hfin fr (hne y ys hy) e) rest (pre ++ [t]) (y :: ys) (by simp [hpre]) (by simpa only [afvL, hy] using he))
set_option maxHeartbeats 4000000 in
/-- the list that comes in is nil -/
theorem afv_nil : ∀ (t : Ty), (afv t []).length ≤ 1099511627776 → t.enc.ok → MCall Try.prog 86 [.pv (.lit (.slice none 0 0)), .pv t.enc] [] (outV (afv t [])) (outH (afv t []))
  | .mk k id ss, hbig, hok => by
    have hss : ss.length ≤ 1099511627776 := by
      simp only [Ty.enc, PV.ok, PV.okL, encL_len, big] at hok; exact hok.2.2.1.1
    have hrec : ∀ t ∈ ss, ∀ ys : List Int, (afv t ys).length ≤ 1099511627776 → MCall Try.prog 86 [.row 0 ys.length false, .pv t.enc] [some (rowI ys)] (.row 1 (afv t ys).length false) [none, some (rowI (afv t ys))] := fun t ht ys h => afv_row t ys h (ok_mem hok ht)
    have hrec0 : ∀ t ∈ ss, (afv t []).length ≤ 1099511627776 → MCall Try.prog 86 [.pv (.lit (.slice none 0 0)), .pv t.enc] [] (outV (afv t [])) (outH (afv t [])) := fun t ht h => afv_nil t h (ok_mem hok ht)
    refine MCall.intro fn86 (by simp) (by simp) (by cases afv (.mk k id ss) [] <;> simp [outH]) (by simp) HpOk_nil (by cases afv (.mk k id ss) [] with
      | nil => exact HpOk_nil
      | cons x xs => exact HpOk_row _) ⟨trivial, trivial, trivial⟩ (by cases afv (.mk k id ss) [] with
      | nil => trivial
      | cons x xs => exact ⟨_, rfl⟩) fun m => ?_
    have hc := hasI_ok [] id
    unfold ac86
    simp only [argFrV, tagN, List.length_nil, Nat.zero_add]
    have hF : afv (.mk k id ss) [] = afvL ss (if k == 1 then [id] else []) := by
      simp only [afv, List.any_nil, Bool.not_false, List.nil_append]
      cases (k == 1) <;> rfl
    cases hk : (k == 1) with
    | false =>
      simp only [hk, Bool.false_eq_true, if_false] at hF
      (repeat' (first | ((with_reducible refine aops_cons' fun C hC => ?_); simp only [go_sem, cells_enc, Ty.tc, Ty.kd, Ty.id, Ty.args, hk, encL_len]; (with_reducible refine finA hC ?_); clear hC C) | ((with_reducible refine aopsD_cons' fun C hC => ?_); simp only [go_sem, cells_enc, Ty.tc, Ty.kd, Ty.id, Ty.args, hk, encL_len]; (with_reducible refine finD hC ?_); clear hC C) | ((with_reducible refine awp_seq_k fun K hK => ?_)) | ((with_reducible refine awp_reg_k fun K hK => ?_)) | ((with_reducible refine awp_dreg_k fun K hK => ?_)) | ((with_reducible refine aops_nil ?_); (with_reducible refine hK _ _ ?_); try clear hK K) | ((with_reducible refine aopsD_nil ?_); (with_reducible refine hK _ _ _ ?_ ?_); (focus (kernel_rfl)); try clear hK K) | ((with_reducible refine thn_normal ?_); (with_reducible refine hK _ _ ?_); try clear hK K) | ((with_reducible refine catch_normal ?_)) | ((with_reducible refine awp_skip_k ?_)) | ((with_reducible refine awp_ret_k ?_)) | ((with_reducible refine awp_exit_k ?_)) | ((with_reducible refine awp_block_k ?_)) | ((with_reducible refine thn_exit ?_); try clear hK K) | ((with_reducible refine thn_ret ?_); try clear hK K) | ((with_reducible refine catch_ret ?_)) | ((with_reducible refine catch_exit ?_)) | ((with_reducible refine catch_other ?_ ?_); (focus (decide))) | ((with_reducible apply aops_guard'); (focus (simp only [go_sem, cells_enc, Ty.tc, Ty.kd, Ty.id, Ty.args, hk, encL_len]; exact rfl))) | ((with_reducible apply aopsD_guard'); (focus (simp only [go_sem, cells_enc, Ty.tc, Ty.kd, Ty.id, Ty.args, hk, encL_len]; exact rfl))) | (first | (with_reducible refine gk_tt ?_) | (with_reducible refine gk_ff ?_)) | ((with_reducible intro C hC); simp only [go_sem, cells_enc, Ty.tc, Ty.kd, Ty.id, Ty.args, hk, encL_len]; (first | (with_reducible refine finA hC ?_); clear hC C | (with_reducible refine finD hC ?_); clear hC C)) | ((first | (with_reducible refine gk_tf ?_) | (with_reducible refine gk_ft ?_) | (with_reducible refine gk_u ?_) | (with_reducible refine gk_u' ?_)); first | (intro _ e; (first | rw [put_some] at e | rw [put_none] at e); subst e) | (intro _ _ e e'; (first | rw [put_some] at e | rw [put_none] at e); subst e; subst e')) | ((with_reducible apply awp_cond_g); (focus (simp only [go_sem, cells_enc, Ty.tc, Ty.kd, Ty.id, Ty.args, hk, encL_len]; exact rfl))) | (with_reducible refine ck_t ?_) | (with_reducible refine ck_f ?_)))
      refine awp_loop_k _ (LeB [0] (by refine ⟨?_, ?_, ?_⟩ <;> simp only [leFr, leFb, leHp, V.ren, V.renL, V.bd, V.bdL, allL, lt, Go.Ab.get, hget, List.map_cons, List.map_nil, List.length_cons, List.length_nil, List.length_append, List.getElem?_cons_zero, List.getElem?_cons_succ, List.getElem?_nil, Option.join_some, Option.join_none, List.getD_cons_zero, List.getD_cons_succ, List.getD_nil, Nat.reduceAdd, Nat.reduceLT, Nat.reduceEqDiff, Nat.zero_add, reduceIte, if_true, if_false, and_true, true_and, renL_vcells, allL_vcells, renL_pv, leBlk_some, eq_self, true_or, or_true, reduceCtorEq, false_or, c0])) (afv_loop0 hss hrec hrec0 k id hK _ hbig (fun fr hn e => ret_row (by simp only [resVs, Ab.resV, e]) hn) (fun fr H hn e => ?_) ss [] rfl hF)
      rw [hn]
      exact ret_nil (by simp only [resVs, Ab.resV, e])
    | true =>
      simp only [hk, if_true] at hF
      (repeat' (first | ((first | (with_reducible refine aops_call fun C hC => ?_) | (with_reducible refine aopsD_call fun C hC => ?_) | ((with_reducible intro C hC); (with_reducible refine ax_call_mp ?_))); (first | (simp only [go_sem, cells_enc, Ty.tc, Ty.kd, Ty.id, Ty.args, hk, encL_len, List.any_nil]; (first | ((with_reducible apply ACall.pure0 [] (hc)); (focus (exact vwA)))))); (simp only [PV.scal, PV.scalL, if_true, Bool.and_true, Bool.and_false, Bool.false_and, Bool.true_and, frz, List.map_nil, Bool.false_eq_true, if_false, ite_self, cells_enc, Ty.tc, Ty.kd, Ty.id, Ty.args, hk, encL_len, List.any_nil]); (first | (with_reducible refine finA hC ?_); clear hC C | (with_reducible refine finD hC ?_); clear hC C)) | ((with_reducible refine aops_cons' fun C hC => ?_); simp only [go_sem, cells_enc, Ty.tc, Ty.kd, Ty.id, Ty.args, hk, encL_len, List.any_nil]; (with_reducible refine finA hC ?_); clear hC C) | ((with_reducible refine aopsD_cons' fun C hC => ?_); simp only [go_sem, cells_enc, Ty.tc, Ty.kd, Ty.id, Ty.args, hk, encL_len, List.any_nil]; (with_reducible refine finD hC ?_); clear hC C) | ((with_reducible refine awp_seq_k fun K hK => ?_)) | ((with_reducible refine awp_reg_k fun K hK => ?_)) | ((with_reducible refine awp_dreg_k fun K hK => ?_)) | ((with_reducible refine aops_nil ?_); (with_reducible refine hK _ _ ?_); try clear hK K) | ((with_reducible refine aopsD_nil ?_); (with_reducible refine hK _ _ _ ?_ ?_); (focus (kernel_rfl)); try clear hK K) | ((with_reducible refine thn_normal ?_); (with_reducible refine hK _ _ ?_); try clear hK K) | ((with_reducible refine catch_normal ?_)) | ((with_reducible refine awp_skip_k ?_)) | ((with_reducible refine awp_ret_k ?_)) | ((with_reducible refine awp_exit_k ?_)) | ((with_reducible refine awp_block_k ?_)) | ((with_reducible refine thn_exit ?_); try clear hK K) | ((with_reducible refine thn_ret ?_); try clear hK K) | ((with_reducible refine catch_ret ?_)) | ((with_reducible refine catch_exit ?_)) | ((with_reducible refine catch_other ?_ ?_); (focus (decide))) | ((with_reducible apply aops_guard'); (focus (simp only [go_sem, cells_enc, Ty.tc, Ty.kd, Ty.id, Ty.args, hk, encL_len, List.any_nil]; exact rfl))) | ((with_reducible apply aopsD_guard'); (focus (simp only [go_sem, cells_enc, Ty.tc, Ty.kd, Ty.id, Ty.args, hk, encL_len, List.any_nil]; exact rfl))) | (first | (with_reducible refine gk_tt ?_) | (with_reducible refine gk_ff ?_)) | ((with_reducible intro C hC); simp only [go_sem, cells_enc, Ty.tc, Ty.kd, Ty.id, Ty.args, hk, encL_len, List.any_nil]; (first | (with_reducible refine finA hC ?_); clear hC C | (with_reducible refine finD hC ?_); clear hC C)) | ((first | (with_reducible refine gk_tf ?_) | (with_reducible refine gk_ft ?_) | (with_reducible refine gk_u ?_) | (with_reducible refine gk_u' ?_)); first | (intro _ e; (first | rw [put_some] at e | rw [put_none] at e); subst e) | (intro _ _ e e'; (first | rw [put_some] at e | rw [put_none] at e); subst e; subst e')) | ((with_reducible apply awp_cond_g); (focus (simp only [go_sem, cells_enc, Ty.tc, Ty.kd, Ty.id, Ty.args, hk, encL_len, List.any_nil]; exact rfl))) | (with_reducible refine ck_t ?_) | (with_reducible refine ck_f ?_)))
      refine awp_loop_k _ (LeB [0, 2] (by refine ⟨?_, ?_, ?_⟩ <;> simp only [leFr, leFb, leHp, V.ren, V.renL, V.bd, V.bdL, allL, lt, Go.Ab.get, hget, List.map_cons, List.map_nil, List.length_cons, List.length_nil, List.length_append, List.getElem?_cons_zero, List.getElem?_cons_succ, List.getElem?_nil, Option.join_some, Option.join_none, List.getD_cons_zero, List.getD_cons_succ, List.getD_nil, Nat.reduceAdd, Nat.reduceLT, Nat.reduceEqDiff, Nat.zero_add, reduceIte, if_true, if_false, and_true, true_and, renL_vcells, allL_vcells, renL_pv, leBlk_some, eq_self, true_or, or_true, reduceCtorEq, false_or, c0, renL_cI, renL_cI1, allL_cI, bdL_cI1, allL_app, List.map_cons, allL, cI])) (afv_loop hss hrec k id hK _ hbig (fun fr e => ret_row (by simp only [resVs, Ab.resV, e]) ?_) ss [] [id] rfl hF)
      intro hn
      have := afvL_mono ss [id]
      rw [← hF, hn] at this; simp at this
termination_by t => SizeOf.sizeOf t
decreasing_by
  have := List.sizeOf_lt_of_mem ht
  simp only [Ty.mk.sizeOf_spec]; omega
def fvs (t : Ty) : List Int := afv t []
set_option maxHeartbeats 1000000 in
theorem free_ok (t : Ty) (hb : (fvs t).length ≤ 1099511627776) : PCall Try.prog 36 [t.enc] (.list 1 (encI (fvs t))) := by
  unfold fvs at hb ⊢
  refine PCall.intro' (ps := [.list 1 (encI (afv t []))]) fn36 (by simp) fun hok => ?_
  have hc := afv_nil t hb hok.1
  unfold ac36
  simp only [argFr]
  (repeat' (first | ((with_reducible refine aops_cons' fun C hC => ?_); simp only [go_sem, cells_enc, Ty.tc]; (with_reducible refine finA hC ?_); clear hC C) | ((with_reducible refine aopsD_cons' fun C hC => ?_); simp only [go_sem, cells_enc, Ty.tc]; (with_reducible refine finD hC ?_); clear hC C) | ((with_reducible refine awp_seq_k fun K hK => ?_)) | ((with_reducible refine awp_reg_k fun K hK => ?_)) | ((with_reducible refine awp_dreg_k fun K hK => ?_)) | ((with_reducible refine aops_nil ?_); (with_reducible refine hK _ _ ?_); try clear hK K) | ((with_reducible refine aopsD_nil ?_); (with_reducible refine hK _ _ _ ?_ ?_); (focus (kernel_rfl)); try clear hK K) | ((with_reducible refine thn_normal ?_); (with_reducible refine hK _ _ ?_); try clear hK K) | ((with_reducible refine catch_normal ?_)) | ((with_reducible refine awp_skip_k ?_)) | ((with_reducible refine awp_ret_k ?_)) | ((with_reducible refine awp_exit_k ?_)) | ((with_reducible refine awp_block_k ?_)) | ((with_reducible refine thn_exit ?_); try clear hK K) | ((with_reducible refine thn_ret ?_); try clear hK K) | ((with_reducible refine catch_ret ?_)) | ((with_reducible refine catch_exit ?_)) | ((with_reducible refine catch_other ?_ ?_); (focus (decide))) | ((with_reducible apply aops_guard'); (focus (simp only [go_sem, cells_enc, Ty.tc]; exact rfl))) | ((with_reducible apply aopsD_guard'); (focus (simp only [go_sem, cells_enc, Ty.tc]; exact rfl))) | (first | (with_reducible refine gk_tt ?_) | (with_reducible refine gk_ff ?_)) | ((with_reducible intro C hC); simp only [go_sem, cells_enc, Ty.tc]; (first | (with_reducible refine finA hC ?_); clear hC C | (with_reducible refine finD hC ?_); clear hC C)) | ((first | (with_reducible refine gk_tf ?_) | (with_reducible refine gk_ft ?_) | (with_reducible refine gk_u ?_) | (with_reducible refine gk_u' ?_)); first | (intro _ e; (first | rw [put_some] at e | rw [put_none] at e); subst e) | (intro _ _ e e'; (first | rw [put_some] at e | rw [put_none] at e); subst e; subst e')) | ((with_reducible apply awp_cond_g); (focus (simp only [go_sem, cells_enc, Ty.tc]; exact rfl))) | (with_reducible refine ck_t ?_) | (with_reducible refine ck_f ?_)))
  refine aops_call fun C hC => ?_
  simp only [go_sem]
  refine ACall.heap [] hc rfl (by decide) (by decide) (VM.eq (.pv (.lit (.slice none 0 0))) _ _ (.pv _ _ _ _ (by exact vwA) .nil)) hh_nil ?_
  cases hy : afv t [] with
  | nil =>
    simp only [V.ren, outV, outH, outD]
    (with_reducible refine finA hC ?_); clear hC C
    (repeat' (first | ((with_reducible refine aops_cons' fun C hC => ?_); simp only [go_sem]; (with_reducible refine finA hC ?_); clear hC C) | ((with_reducible refine aopsD_cons' fun C hC => ?_); simp only [go_sem]; (with_reducible refine finD hC ?_); clear hC C) | ((with_reducible refine awp_seq_k fun K hK => ?_)) | ((with_reducible refine awp_reg_k fun K hK => ?_)) | ((with_reducible refine awp_dreg_k fun K hK => ?_)) | ((with_reducible refine aops_nil ?_); (with_reducible refine hK _ _ ?_); try clear hK K) | ((with_reducible refine aopsD_nil ?_); (with_reducible refine hK _ _ _ ?_ ?_); (focus (kernel_rfl)); try clear hK K) | ((with_reducible refine thn_normal ?_); (with_reducible refine hK _ _ ?_); try clear hK K) | ((with_reducible refine catch_normal ?_)) | ((with_reducible refine awp_skip_k ?_)) | ((with_reducible refine awp_ret_k ?_)) | ((with_reducible refine awp_exit_k ?_)) | ((with_reducible refine awp_block_k ?_)) | ((with_reducible refine thn_exit ?_); try clear hK K) | ((with_reducible refine thn_ret ?_); try clear hK K) | ((with_reducible refine catch_ret ?_)) | ((with_reducible refine catch_exit ?_)) | ((with_reducible refine catch_other ?_ ?_); (focus (decide))) | ((with_reducible apply aops_guard'); (focus (simp only [go_sem]; exact rfl))) | ((with_reducible apply aopsD_guard'); (focus (simp only [go_sem]; exact rfl))) | (first | (with_reducible refine gk_tt ?_) | (with_reducible refine gk_ff ?_)) | ((with_reducible intro C hC); simp only [go_sem]; (first | (with_reducible refine finA hC ?_); clear hC C | (with_reducible refine finD hC ?_); clear hC C)) | ((first | (with_reducible refine gk_tf ?_) | (with_reducible refine gk_ft ?_) | (with_reducible refine gk_u ?_) | (with_reducible refine gk_u' ?_)); first | (intro _ e; (first | rw [put_some] at e | rw [put_none] at e); subst e) | (intro _ _ e e'; (first | rw [put_some] at e | rw [put_none] at e); subst e; subst e')) | ((with_reducible apply awp_cond_g); (focus (simp only [go_sem]; exact rfl))) | (with_reducible refine ck_t ?_) | (with_reducible refine ck_f ?_)))
    rw [hy]
    (refine retP_ret (List.range 40) rfl ?_; exact vwA)
  | cons y ys =>
    simp only [V.ren, outV, outH, outD, rhoN, Option.map_some, renL_cI]
    (with_reducible refine finA hC ?_); clear hC C
    (repeat' (first | ((with_reducible refine aops_cons' fun C hC => ?_); simp only [go_sem]; (with_reducible refine finA hC ?_); clear hC C) | ((with_reducible refine aopsD_cons' fun C hC => ?_); simp only [go_sem]; (with_reducible refine finD hC ?_); clear hC C) | ((with_reducible refine awp_seq_k fun K hK => ?_)) | ((with_reducible refine awp_reg_k fun K hK => ?_)) | ((with_reducible refine awp_dreg_k fun K hK => ?_)) | ((with_reducible refine aops_nil ?_); (with_reducible refine hK _ _ ?_); try clear hK K) | ((with_reducible refine aopsD_nil ?_); (with_reducible refine hK _ _ _ ?_ ?_); (focus (kernel_rfl)); try clear hK K) | ((with_reducible refine thn_normal ?_); (with_reducible refine hK _ _ ?_); try clear hK K) | ((with_reducible refine catch_normal ?_)) | ((with_reducible refine awp_skip_k ?_)) | ((with_reducible refine awp_ret_k ?_)) | ((with_reducible refine awp_exit_k ?_)) | ((with_reducible refine awp_block_k ?_)) | ((with_reducible refine thn_exit ?_); try clear hK K) | ((with_reducible refine thn_ret ?_); try clear hK K) | ((with_reducible refine catch_ret ?_)) | ((with_reducible refine catch_exit ?_)) | ((with_reducible refine catch_other ?_ ?_); (focus (decide))) | ((with_reducible apply aops_guard'); (focus (simp only [go_sem]; exact rfl))) | ((with_reducible apply aopsD_guard'); (focus (simp only [go_sem]; exact rfl))) | (first | (with_reducible refine gk_tt ?_) | (with_reducible refine gk_ff ?_)) | ((with_reducible intro C hC); simp only [go_sem]; (first | (with_reducible refine finA hC ?_); clear hC C | (with_reducible refine finD hC ?_); clear hC C)) | ((first | (with_reducible refine gk_tf ?_) | (with_reducible refine gk_ft ?_) | (with_reducible refine gk_u ?_) | (with_reducible refine gk_u' ?_)); first | (intro _ e; (first | rw [put_some] at e | rw [put_none] at e); subst e) | (intro _ _ e e'; (first | rw [put_some] at e | rw [put_none] at e); subst e; subst e')) | ((with_reducible apply awp_cond_g); (focus (simp only [go_sem]; exact rfl))) | (with_reducible refine ck_t ?_) | (with_reducible refine ck_f ?_)))
    rw [hy]
    refine retP_ret [1] rfl (.cons _ _ _ _ ?_ .nil)
    refine row_ii (xs := y :: ys) (b := 1) (B := [1]) (ro := false) (ty := 3) (tg := none) ?_ rfl
    decide
end Go.Proofs.Ytgphapkpoamcgaa
