/- T13: joined from V10. -/
import Derived.Test.YtbdoblgofddhdaaFnT
import Derived.Test.YtbdoblgofddhdaaT12
/- Traits: the reference's matcher. -/
set_option maxRecDepth 10000
set_option linter.unusedSimpArgs false
set_option linter.unusedVariables false
namespace Go.Proofs.Ytbdoblgofddhdaa
open Go Go.Ab
theorem kdT (k id : Int) (a : List Ty) : (Ty.mk k id a).kd = k := rfl
theorem idT (k id : Int) (a : List Ty) : (Ty.mk k id a).id = id := rfl
theorem argsT (k id : Int) (a : List Ty) : (Ty.mk k id a).args = a := rfl
def f1 (L : List (Int × Ty)) : List Int := L.map Prod.fst
def f2 (L : List (Int × Ty)) : List Ty := L.map Prod.snd
theorem f1_len (L : List (Int × Ty)) : (f1 L).length = L.length := by simp [f1]
theorem f2_len (L : List (Int × Ty)) : (f2 L).length = L.length := by simp [f2]
theorem f1_app (L M : List (Int × Ty)) : f1 (L ++ M) = f1 L ++ f1 M := by simp [f1]
theorem f2_app (L M : List (Int × Ty)) : f2 (L ++ M) = f2 L ++ f2 M := by simp [f2]
def ocV : Option (List (Int × Ty)) → PV
  | none => .tup [.list 1 (encI []), .list 3 (encL []), bb false]
  | some L => .tup [.list 1 (encI (f1 L)), .list 3 (encL (f2 L)), bb true]
theorem vcI (xs : List Int) : (encI xs).map PV.vcells = xs.map cI := by
  unfold encI; rw [List.map_map]
  exact List.map_congr_left fun t _ => rfl
theorem clI (xs : List Int) : (∀ x ∈ encI xs, x.cells.length = 1) = True := by
  refine eq_true fun x hx => ?_
  unfold encI at hx
  obtain ⟨t, _, rfl⟩ := List.mem_map.1 hx
  rfl
theorem vcP (xs : List Ty) : (encL xs).map PV.vcells = xs.map Ty.tc := by
  rw [encL_map, List.map_map]
  exact List.map_congr_left fun t _ => by cases t; rfl
theorem clP (xs : List Ty) : (∀ x ∈ encL xs, x.cells.length = 3) = True := by
  refine eq_true fun x hx => ?_
  rw [encL_map] at hx
  obtain ⟨t, _, rfl⟩ := List.mem_map.1 hx
  cases t; rfl
theorem row_iT {h : HF} {B : List Nat} {b n : Nat} {fl ro : Bool} {ty : Nat} {xs : List Int} {tg : Option (Nat × Nat × Nat)} (hb : b ∈ B) (hk : h b = some ⟨ro, ty, 1, xs.map cI, tg⟩) (hn : n = xs.length) : Vw h B (.row b n fl) (.list 1 (encI xs)) := by
  subst hn; exact row_ii hb hk
theorem ndsL_mid : ∀ (pre rest : List Ty) (q : Ty), ndsL (pre ++ q :: rest) = ndsL pre + nds q + ndsL rest
  | [], rest, q => by simp [ndsL]
  | p :: pre, rest, q => by simp only [List.cons_append, ndsL, ndsL_mid pre rest q]; omega
theorem nds_mem : ∀ {qs : List Ty} {q : Ty}, q ∈ qs → nds q ≤ ndsL qs
  | q' :: qs, q, h => by
    simp only [ndsL]
    rcases List.mem_cons.1 h with rfl | h
    · omega
    · have := nds_mem h; omega
theorem ndsL_end : ∀ (pre : List Ty) (q : Ty), ndsL (pre ++ [q]) = ndsL pre + nds q
  | [], q => by simp [ndsL]
  | p :: pre, q => by simp only [List.cons_append, ndsL, ndsL_end pre q]; omega
set_option maxHeartbeats 8000000 in
theorem oc_loop (ps : List Int) (k id : Int) (qs : List Ty) (hb : nds (.mk k id qs) ≤ 1099511627776) (hrec : ∀ q ∈ qs, ∀ u : Ty, PCall Try.prog 148 [u.enc, q.enc, .list 1 (encI ps)] (ocV (oc ps q u))) (t : Ty) :
    PCall Try.prog 148 [t.enc, (Ty.mk k id qs).enc, .list 1 (encI ps)] (ocV (oc ps (.mk k id qs) t)) := by
  have hgen : ∀ r0 r1 r2, ocV (oc ps (.mk k id qs) t) = .tup [r0, r1, r2] → PCall Try.prog 148 [t.enc, (Ty.mk k id qs).enc, .list 1 (encI ps)] (.tup [r0, r1, r2]) := by
    intro r0 r1 r2 hr
    refine PCall.intro' (ps := [r0, r1, r2]) fn148 (by simp) fun hok => ?_
    have hts : t.args.length ≤ 1099511627776 := by
      simp only [PV.okL, eq_enc t, PV.ok, encL_len, big] at hok; exact hok.1.2.2.1.1
    have hqs : ndsL qs ≤ 1099511627776 := by simp only [nds] at hb; omega
    clear hok
    have hpx := pidx_ok (.mk k id qs) ps
    simp only [Ty.kd, Ty.id, Ty.enc] at hpx
    unfold oc at hr
    rcases pI_cases ps k id with ⟨hp, he⟩ | ⟨hp, he⟩
    · rw [he] at hpx
      have hge : decide (((parI ps id : Nat) : Int) ≥ 0) = true := decide_eq_true (by omega)
      rw [if_pos hp] at hr
      simp only [ocV, f1, f2, List.map_cons, List.map_nil, PV.tup.injEq, List.cons.injEq, and_true] at hr
      obtain ⟨rfl, rfl, rfl⟩ := hr
      unfold ac148
      simp only [argFr]
      (repeat' (first | ((first | (with_reducible refine aops_call fun C hC => ?_) | (with_reducible refine aopsD_call fun C hC => ?_) | ((with_reducible intro C hC); (with_reducible refine ax_call_mp ?_))); (first | (simp only [go_sem, cells_enc, Ty.tc, kdT, idT, argsT, hge]; (first | ((with_reducible apply ACall.pure0 [] (hpx)); (focus (exact vwA)))))); (simp only [PV.scal, PV.scalL, if_true, Bool.and_true, Bool.and_false, Bool.false_and, Bool.true_and, frz, List.map_nil, Bool.false_eq_true, if_false, ite_self, cells_enc, Ty.tc, kdT, idT, argsT, hge]); ((with_reducible first | refine finA hC ?_ | refine finD hC ?_); clear hC C)) | ((with_reducible first | refine aops_cons' fun C hC => ?_ | refine aopsD_cons' fun C hC => ?_ | intro C hC); simp only [go_sem, cells_enc, Ty.tc, kdT, idT, argsT, hge]; ((with_reducible first | refine finA hC ?_ | refine finD hC ?_); clear hC C)) | (with_reducible first | refine awp_seq_k fun K hK => ?_ | refine awp_reg_k fun K hK => ?_ | refine awp_dreg_k fun K hK => ?_ | (refine aops_nil ?_; refine hK _ _ ?_; try clear hK K) | (refine aopsD_nil ?_; refine hK _ _ _ ?_ ?_; (focus kernel_rfl); try clear hK K) | (refine thn_normal ?_; refine hK _ _ ?_; try clear hK K) | refine catch_normal ?_ | refine awp_skip_k ?_ | refine awp_ret_k ?_ | refine awp_exit_k ?_ | refine awp_block_k ?_ | (refine thn_exit ?_; try clear hK K) | (refine thn_ret ?_; try clear hK K) | refine catch_ret ?_ | refine catch_exit ?_ | (refine catch_other ?_ ?_; focus decide)) | ((with_reducible first | apply aops_guard' | apply aopsD_guard' | apply awp_cond_g); focus (simp only [go_sem, cells_enc, Ty.tc, kdT, idT, argsT, hge]; exact rfl)) | (with_reducible first | refine gk_tt ?_ | refine gk_ff ?_ | refine ck_t ?_ | refine ck_f ?_) | ((with_reducible first | refine gk_tf ?_ | refine gk_ft ?_ | refine gk_u ?_ | refine gk_u' ?_); first | (intro _ e; (first | rw [put_some] at e | rw [put_none] at e); subst e) | (intro _ _ e e'; (first | rw [put_some] at e | rw [put_none] at e); subst e; subst e'))))
      refine retP_ret (List.range 40) rfl ?_
      refine .cons _ _ _ _ (row_iT (xs := [((parI ps id : Nat) : Int)]) (by decide) rfl rfl) (.cons _ _ _ _ (row_tc (xs := [t]) (by decide) rfl rfl) (.cons _ _ _ _ (.pv _) .nil))
    · rw [he] at hpx
      rw [if_neg (by simp [hp])] at hr
      have no : (if (if !(t.kd == k) then true else !(t.id == id)) then true else !((t.args.length : Int) == qs.length)) = true → r0 = .list 1 (encI []) ∧ r1 = .list 3 (encL []) ∧ r2 = bb false := fun hc => by
        rw [if_pos hc] at hr
        simp only [ocV, PV.tup.injEq, List.cons.injEq, and_true] at hr
        exact ⟨hr.1.symm, hr.2.1.symm, hr.2.2.symm⟩
      unfold ac148
      simp only [argFr]
      cases h1 : (t.kd == k) with
      | false =>
        obtain ⟨rfl, rfl, rfl⟩ := no (by simp [h1])
        (repeat' (first | ((first | (with_reducible refine aops_call fun C hC => ?_) | (with_reducible refine aopsD_call fun C hC => ?_) | ((with_reducible intro C hC); (with_reducible refine ax_call_mp ?_))); (first | (simp only [go_sem, cells_enc, Ty.tc, kdT, idT, argsT, bne, h1]; (first | ((with_reducible apply ACall.pure0 [] (hpx)); (focus (exact vwA)))))); (simp only [PV.scal, PV.scalL, if_true, Bool.and_true, Bool.and_false, Bool.false_and, Bool.true_and, frz, List.map_nil, Bool.false_eq_true, if_false, ite_self, cells_enc, Ty.tc, kdT, idT, argsT, bne, h1]); ((with_reducible first | refine finA hC ?_ | refine finD hC ?_); clear hC C)) | ((with_reducible first | refine aops_cons' fun C hC => ?_ | refine aopsD_cons' fun C hC => ?_ | intro C hC); simp only [go_sem, cells_enc, Ty.tc, kdT, idT, argsT, bne, h1]; ((with_reducible first | refine finA hC ?_ | refine finD hC ?_); clear hC C)) | (with_reducible first | refine awp_seq_k fun K hK => ?_ | refine awp_reg_k fun K hK => ?_ | refine awp_dreg_k fun K hK => ?_ | (refine aops_nil ?_; refine hK _ _ ?_; try clear hK K) | (refine aopsD_nil ?_; refine hK _ _ _ ?_ ?_; (focus kernel_rfl); try clear hK K) | (refine thn_normal ?_; refine hK _ _ ?_; try clear hK K) | refine catch_normal ?_ | refine awp_skip_k ?_ | refine awp_ret_k ?_ | refine awp_exit_k ?_ | refine awp_block_k ?_ | (refine thn_exit ?_; try clear hK K) | (refine thn_ret ?_; try clear hK K) | refine catch_ret ?_ | refine catch_exit ?_ | (refine catch_other ?_ ?_; focus decide)) | ((with_reducible first | apply aops_guard' | apply aopsD_guard' | apply awp_cond_g); focus (simp only [go_sem, cells_enc, Ty.tc, kdT, idT, argsT, bne, h1]; exact rfl)) | (with_reducible first | refine gk_tt ?_ | refine gk_ff ?_ | refine ck_t ?_ | refine ck_f ?_) | ((with_reducible first | refine gk_tf ?_ | refine gk_ft ?_ | refine gk_u ?_ | refine gk_u' ?_); first | (intro _ e; (first | rw [put_some] at e | rw [put_none] at e); subst e) | (intro _ _ e e'; (first | rw [put_some] at e | rw [put_none] at e); subst e; subst e'))))
        (refine retP_ret (List.range 40) rfl ?_; (try simp only [encL, encI, List.map_nil, if_true, if_false, Bool.false_eq_true, Bool.not_true, Bool.not_false]); exact vwA)
      | true =>
        cases h2 : (t.id == id) with
        | false =>
          obtain ⟨rfl, rfl, rfl⟩ := no (by simp [h2])
          (repeat' (first | ((first | (with_reducible refine aops_call fun C hC => ?_) | (with_reducible refine aopsD_call fun C hC => ?_) | ((with_reducible intro C hC); (with_reducible refine ax_call_mp ?_))); (first | (simp only [go_sem, cells_enc, Ty.tc, kdT, idT, argsT, bne, h1, h2]; (first | ((with_reducible apply ACall.pure0 [] (hpx)); (focus (exact vwA)))))); (simp only [PV.scal, PV.scalL, if_true, Bool.and_true, Bool.and_false, Bool.false_and, Bool.true_and, frz, List.map_nil, Bool.false_eq_true, if_false, ite_self, cells_enc, Ty.tc, kdT, idT, argsT, bne, h1, h2]); ((with_reducible first | refine finA hC ?_ | refine finD hC ?_); clear hC C)) | ((with_reducible first | refine aops_cons' fun C hC => ?_ | refine aopsD_cons' fun C hC => ?_ | intro C hC); simp only [go_sem, cells_enc, Ty.tc, kdT, idT, argsT, bne, h1, h2]; ((with_reducible first | refine finA hC ?_ | refine finD hC ?_); clear hC C)) | (with_reducible first | refine awp_seq_k fun K hK => ?_ | refine awp_reg_k fun K hK => ?_ | refine awp_dreg_k fun K hK => ?_ | (refine aops_nil ?_; refine hK _ _ ?_; try clear hK K) | (refine aopsD_nil ?_; refine hK _ _ _ ?_ ?_; (focus kernel_rfl); try clear hK K) | (refine thn_normal ?_; refine hK _ _ ?_; try clear hK K) | refine catch_normal ?_ | refine awp_skip_k ?_ | refine awp_ret_k ?_ | refine awp_exit_k ?_ | refine awp_block_k ?_ | (refine thn_exit ?_; try clear hK K) | (refine thn_ret ?_; try clear hK K) | refine catch_ret ?_ | refine catch_exit ?_ | (refine catch_other ?_ ?_; focus decide)) | ((with_reducible first | apply aops_guard' | apply aopsD_guard' | apply awp_cond_g); focus (simp only [go_sem, cells_enc, Ty.tc, kdT, idT, argsT, bne, h1, h2]; exact rfl)) | (with_reducible first | refine gk_tt ?_ | refine gk_ff ?_ | refine ck_t ?_ | refine ck_f ?_) | ((with_reducible first | refine gk_tf ?_ | refine gk_ft ?_ | refine gk_u ?_ | refine gk_u' ?_); first | (intro _ e; (first | rw [put_some] at e | rw [put_none] at e); subst e) | (intro _ _ e e'; (first | rw [put_some] at e | rw [put_none] at e); subst e; subst e'))))
          (refine retP_ret (List.range 40) rfl ?_; (try simp only [encL, encI, List.map_nil, if_true, if_false, Bool.false_eq_true, Bool.not_true, Bool.not_false]); exact vwA)
        | true =>
          cases h3 : ((t.args.length : Int) == (qs.length : Int)) with
          | false =>
            obtain ⟨rfl, rfl, rfl⟩ := no (by simp [h1, h2, h3])
            (repeat' (first | ((first | (with_reducible refine aops_call fun C hC => ?_) | (with_reducible refine aopsD_call fun C hC => ?_) | ((with_reducible intro C hC); (with_reducible refine ax_call_mp ?_))); (first | (simp only [go_sem, cells_enc, Ty.tc, kdT, idT, argsT, bne, h1, h2, h3, encL_len]; (first | ((with_reducible apply ACall.pure0 [] (hpx)); (focus (exact vwA)))))); (simp only [PV.scal, PV.scalL, if_true, Bool.and_true, Bool.and_false, Bool.false_and, Bool.true_and, frz, List.map_nil, Bool.false_eq_true, if_false, ite_self, cells_enc, Ty.tc, kdT, idT, argsT, bne, h1, h2, h3, encL_len]); ((with_reducible first | refine finA hC ?_ | refine finD hC ?_); clear hC C)) | ((with_reducible first | refine aops_cons' fun C hC => ?_ | refine aopsD_cons' fun C hC => ?_ | intro C hC); simp only [go_sem, cells_enc, Ty.tc, kdT, idT, argsT, bne, h1, h2, h3, encL_len]; ((with_reducible first | refine finA hC ?_ | refine finD hC ?_); clear hC C)) | (with_reducible first | refine awp_seq_k fun K hK => ?_ | refine awp_reg_k fun K hK => ?_ | refine awp_dreg_k fun K hK => ?_ | (refine aops_nil ?_; refine hK _ _ ?_; try clear hK K) | (refine aopsD_nil ?_; refine hK _ _ _ ?_ ?_; (focus kernel_rfl); try clear hK K) | (refine thn_normal ?_; refine hK _ _ ?_; try clear hK K) | refine catch_normal ?_ | refine awp_skip_k ?_ | refine awp_ret_k ?_ | refine awp_exit_k ?_ | refine awp_block_k ?_ | (refine thn_exit ?_; try clear hK K) | (refine thn_ret ?_; try clear hK K) | refine catch_ret ?_ | refine catch_exit ?_ | (refine catch_other ?_ ?_; focus decide)) | ((with_reducible first | apply aops_guard' | apply aopsD_guard' | apply awp_cond_g); focus (simp only [go_sem, cells_enc, Ty.tc, kdT, idT, argsT, bne, h1, h2, h3, encL_len]; exact rfl)) | (with_reducible first | refine gk_tt ?_ | refine gk_ff ?_ | refine ck_t ?_ | refine ck_f ?_) | ((with_reducible first | refine gk_tf ?_ | refine gk_ft ?_ | refine gk_u ?_ | refine gk_u' ?_); first | (intro _ e; (first | rw [put_some] at e | rw [put_none] at e); subst e) | (intro _ _ e e'; (first | rw [put_some] at e | rw [put_none] at e); subst e; subst e'))))
            (refine retP_ret (List.range 40) rfl ?_; (try simp only [encL, encI, List.map_nil, if_true, if_false, Bool.false_eq_true, Bool.not_true, Bool.not_false]); exact vwA)
          | true =>
            rw [if_neg (by simp [h1, h2, h3])] at hr
            clear no
            (repeat' (first | ((first | (with_reducible refine aops_call fun C hC => ?_) | (with_reducible refine aopsD_call fun C hC => ?_) | ((with_reducible intro C hC); (with_reducible refine ax_call_mp ?_))); (first | (simp only [go_sem, cells_enc, Ty.tc, kdT, idT, argsT, bne, h1, h2, h3, encL_len]; (first | ((with_reducible apply ACall.pure0 [] (hpx)); (focus (exact vwA)))))); (simp only [PV.scal, PV.scalL, if_true, Bool.and_true, Bool.and_false, Bool.false_and, Bool.true_and, frz, List.map_nil, Bool.false_eq_true, if_false, ite_self, cells_enc, Ty.tc, kdT, idT, argsT, bne, h1, h2, h3, encL_len]); ((with_reducible first | refine finA hC ?_ | refine finD hC ?_); clear hC C)) | ((with_reducible first | refine aops_cons' fun C hC => ?_ | refine aopsD_cons' fun C hC => ?_ | intro C hC); simp only [go_sem, cells_enc, Ty.tc, kdT, idT, argsT, bne, h1, h2, h3, encL_len]; ((with_reducible first | refine finA hC ?_ | refine finD hC ?_); clear hC C)) | (with_reducible first | refine awp_seq_k fun K hK => ?_ | refine awp_reg_k fun K hK => ?_ | refine awp_dreg_k fun K hK => ?_ | (refine aops_nil ?_; refine hK _ _ ?_; try clear hK K) | (refine aopsD_nil ?_; refine hK _ _ _ ?_ ?_; (focus kernel_rfl); try clear hK K) | (refine thn_normal ?_; refine hK _ _ ?_; try clear hK K) | refine catch_normal ?_ | refine awp_skip_k ?_ | refine awp_ret_k ?_ | refine awp_exit_k ?_ | refine awp_block_k ?_ | (refine thn_exit ?_; try clear hK K) | (refine thn_ret ?_; try clear hK K) | refine catch_ret ?_ | refine catch_exit ?_ | (refine catch_other ?_ ?_; focus decide)) | ((with_reducible first | apply aops_guard' | apply aopsD_guard' | apply awp_cond_g); focus (simp only [go_sem, cells_enc, Ty.tc, kdT, idT, argsT, bne, h1, h2, h3, encL_len]; exact rfl)) | (with_reducible first | refine gk_tt ?_ | refine gk_ff ?_ | refine ck_t ?_ | refine ck_f ?_) | ((with_reducible first | refine gk_tf ?_ | refine gk_ft ?_ | refine gk_u ?_ | refine gk_u' ?_); first | (intro _ e; (first | rw [put_some] at e | rw [put_none] at e); subst e) | (intro _ _ e e'; (first | rw [put_some] at e | rw [put_none] at e); subst e; subst e'))))
            have hll3 : t.args.length = qs.length := by have : (t.args.length : Int) = qs.length := by simpa using h3
                                                        omega
            have more : ∀ (rt rq pq pt : List Ty) (L : List (Int × Ty)), pq ++ rq = qs → pt ++ rt = t.args → pq.length = pt.length → rt.length = rq.length → L.length ≤ ndsL pq → ocL ps qs t.args = (match ocL ps rq rt with | none => none | some b => some (L ++ b)) → loopN (awp Try.prog ac148_l0) (catch_ 0 (thn K (retP [RV.tmp 6, RV.tmp 7, RV.tmp 8] [r0, r1, r2]))) (rt.length + 1)
               [(49, .pv (ii pt.length)), (48, .pv (ii t.args.length)), (11, .row 3 L.length false), (10, .row 2 L.length false), (4, .ptr 1 0 0), (3, .ptr 0 0 0), (2, .pv (.list 1 (encI ps)))]
               [some ⟨false, 26, 3, [[.pv (ii t.kd), .pv (ii t.id), .pv (.list 3 (encL t.args))]], none⟩, some ⟨false, 26, 3, [[.pv (ii k), .pv (ii id), .pv (.list 3 (encL qs))]], none⟩, some ⟨false, 3, 1, (f1 L).map cI, none⟩, some ⟨false, 26, 3, (f2 L).map Ty.tc, none⟩] := by
              intro rt
              induction rt with
              | nil =>
                intro rq pq pt L hpq hpt hll hrl hL he
                have hpt : pt = t.args := by simpa using hpt
                have hq0 : rq = [] := List.eq_nil_of_length_eq_zero (by simpa using hrl.symm)
                subst hq0
                have hlt : decide ((pt.length : Int) < (t.args.length : Int)) = false := by rw [hpt]; exact lt_end _
                rw [he] at hr
                simp only [ocL, List.append_nil, ocV, PV.tup.injEq, List.cons.injEq, and_true] at hr
                obtain ⟨rfl, rfl, rfl⟩ := hr
                refine loopN_k fun K1 hK1 => ?_
                unfold ac148_l0
                (repeat' (first | ((with_reducible first | refine aops_cons' fun C hC => ?_ | refine aopsD_cons' fun C hC => ?_ | intro C hC); simp only [go_sem, hlt]; ((with_reducible first | refine finA hC ?_ | refine finD hC ?_); clear hC C)) | (with_reducible first | refine awp_seq_k fun K hK => ?_ | refine awp_reg_k fun K hK => ?_ | refine awp_dreg_k fun K hK => ?_ | (refine aops_nil ?_; refine hK _ _ ?_; try clear hK K) | (refine aopsD_nil ?_; refine hK _ _ _ ?_ ?_; (focus kernel_rfl); try clear hK K) | (refine thn_normal ?_; refine hK _ _ ?_; try clear hK K) | refine catch_normal ?_ | refine awp_skip_k ?_ | refine awp_ret_k ?_ | refine awp_exit_k ?_ | refine awp_block_k ?_ | (refine thn_exit ?_; try clear hK K) | (refine thn_ret ?_; try clear hK K) | refine catch_ret ?_ | refine catch_exit ?_ | (refine catch_other ?_ ?_; focus decide)) | ((with_reducible first | apply aops_guard' | apply aopsD_guard' | apply awp_cond_g); focus (simp only [go_sem, hlt]; exact rfl)) | (with_reducible first | refine gk_tt ?_ | refine gk_ff ?_ | refine ck_t ?_ | refine ck_f ?_) | ((with_reducible first | refine gk_tf ?_ | refine gk_ft ?_ | refine gk_u ?_ | refine gk_u' ?_); first | (intro _ e; (first | rw [put_some] at e | rw [put_none] at e); subst e) | (intro _ _ e e'; (first | rw [put_some] at e | rw [put_none] at e); subst e; subst e'))))
                refine retP_ret (List.range 40) rfl ?_
                exact .cons _ _ _ _ (row_iT (xs := f1 L) (by decide) rfl (f1_len L).symm) (.cons _ _ _ _ (row_tc (xs := f2 L) (by decide) rfl (f2_len L).symm) (.cons _ _ _ _ (.pv _) .nil))
              | cons u rt ih =>
                intro rq pq pt L hpq hpt hll hrl hL he
                cases rq with
                | nil => simp at hrl
                | cons q rq =>
                have hlt : decide ((pt.length : Int) < (t.args.length : Int)) = true := by rw [← hpt]; exact lt_app _ _ _
                have hat : (encL t.args)[pt.length]? = some u.enc := by rw [← hpt]; exact encL_at _ _ _
                have hat2 : (encL qs)[pt.length]? = some q.enc := by rw [← hll, ← hpq]; exact encL_at _ _ _
                have hw := wrapS (n := pt.length) (by have := congrArg List.length hpt; simp at this; omega)
                have hc := hrec q (by rw [← hpq]; simp) u
                have hn : ndsL pq + nds q ≤ 1099511627776 := by have := ndsL_mid pq rq q; rw [hpq] at this; omega
                refine loopN_k fun K1 hK1 => ?_
                unfold ac148_l0
                cases ho : oc ps q u with
                | none =>
                  rw [ho, eq_enc u, eq_enc q] at hc
                  simp only [ocV] at hc
                  rw [he] at hr
                  simp only [ocL, ho, ocV, PV.tup.injEq, List.cons.injEq, and_true] at hr
                  obtain ⟨rfl, rfl, rfl⟩ := hr
                  (repeat' (first | ((first | (with_reducible refine aops_call fun C hC => ?_) | (with_reducible refine aopsD_call fun C hC => ?_) | ((with_reducible intro C hC); (with_reducible refine ax_call_mp ?_))); (first | (simp only [go_sem, hlt, hat, hat2, cells_enc, pcells_enc, Ty.tc]; (first | ((with_reducible apply ACall.pure0 [] (hc)); (focus (exact vwA)))))); (simp only [PV.scal, PV.scalL, if_true, Bool.and_true, Bool.and_false, Bool.false_and, Bool.true_and, frz, List.map_nil, Bool.false_eq_true, if_false, ite_self, hlt, hat, hat2, cells_enc, pcells_enc, Ty.tc]); ((with_reducible first | refine finA hC ?_ | refine finD hC ?_); clear hC C)) | ((with_reducible first | refine aops_cons' fun C hC => ?_ | refine aopsD_cons' fun C hC => ?_ | intro C hC); simp only [go_sem, hlt, hat, hat2, cells_enc, pcells_enc, Ty.tc]; ((with_reducible first | refine finA hC ?_ | refine finD hC ?_); clear hC C)) | (with_reducible first | refine awp_seq_k fun K hK => ?_ | refine awp_reg_k fun K hK => ?_ | refine awp_dreg_k fun K hK => ?_ | (refine aops_nil ?_; refine hK _ _ ?_; try clear hK K) | (refine aopsD_nil ?_; refine hK _ _ _ ?_ ?_; (focus kernel_rfl); try clear hK K) | (refine thn_normal ?_; refine hK _ _ ?_; try clear hK K) | refine catch_normal ?_ | refine awp_skip_k ?_ | refine awp_ret_k ?_ | refine awp_exit_k ?_ | refine awp_block_k ?_ | (refine thn_exit ?_; try clear hK K) | (refine thn_ret ?_; try clear hK K) | refine catch_ret ?_ | refine catch_exit ?_ | (refine catch_other ?_ ?_; focus decide)) | ((with_reducible first | apply aops_guard' | apply aopsD_guard' | apply awp_cond_g); focus (simp only [go_sem, hlt, hat, hat2, cells_enc, pcells_enc, Ty.tc]; exact rfl)) | (with_reducible first | refine gk_tt ?_ | refine gk_ff ?_ | refine ck_t ?_ | refine ck_f ?_) | ((with_reducible first | refine gk_tf ?_ | refine gk_ft ?_ | refine gk_u ?_ | refine gk_u' ?_); first | (intro _ e; (first | rw [put_some] at e | rw [put_none] at e); subst e) | (intro _ _ e e'; (first | rw [put_some] at e | rw [put_none] at e); subst e; subst e'))))
                  (refine retP_ret (List.range 40) rfl ?_; (try simp only [encL, encI, List.map_nil, if_true, if_false, Bool.false_eq_true, Bool.not_true, Bool.not_false]); exact vwA)
                | some a =>
                  rw [ho, eq_enc u, eq_enc q] at hc
                  simp only [ocV] at hc
                  have ha := oc_len ps q u a ho
                  have hbg : L.length + a.length ≤ big := by unfold big; omega
                  have v1 := vcI (f1 a)
                  have v2 := vcP (f2 a)
                  have c1 := clI (f1 a)
                  have c2 := clP (f2 a)
                  have he : ocL ps qs t.args = (match ocL ps rq rt with | none => none | some b => some ((L ++ a) ++ b)) := by
                    rw [he]
                    simp only [ocL, ho]
                    cases ocL ps rq rt <;> simp
                  (repeat' (first | ((first | (with_reducible refine aops_call fun C hC => ?_) | (with_reducible refine aopsD_call fun C hC => ?_) | ((with_reducible intro C hC); (with_reducible refine ax_call_mp ?_))); (first | (simp only [go_sem, hlt, hat, hat2, cells_enc, pcells_enc, Ty.tc, v1, v2, c1, c2, List.length_map, f1_len, f2_len, hbg]; (first | ((with_reducible apply ACall.pure0 [] (hc)); (focus (exact vwA)))))); (simp only [PV.scal, PV.scalL, if_true, Bool.and_true, Bool.and_false, Bool.false_and, Bool.true_and, frz, List.map_nil, Bool.false_eq_true, if_false, ite_self, hlt, hat, hat2, cells_enc, pcells_enc, Ty.tc, v1, v2, c1, c2, List.length_map, f1_len, f2_len, hbg]); ((with_reducible first | refine finA hC ?_ | refine finD hC ?_); clear hC C)) | ((with_reducible first | refine aops_cons' fun C hC => ?_ | refine aopsD_cons' fun C hC => ?_ | intro C hC); simp only [go_sem, hlt, hat, hat2, cells_enc, pcells_enc, Ty.tc, v1, v2, c1, c2, List.length_map, f1_len, f2_len, hbg]; ((with_reducible first | refine finA hC ?_ | refine finD hC ?_); clear hC C)) | (with_reducible first | refine awp_seq_k fun K hK => ?_ | refine awp_reg_k fun K hK => ?_ | refine awp_dreg_k fun K hK => ?_ | (refine aops_nil ?_; refine hK _ _ ?_; try clear hK K) | (refine aopsD_nil ?_; refine hK _ _ _ ?_ ?_; (focus kernel_rfl); try clear hK K) | (refine thn_normal ?_; refine hK _ _ ?_; try clear hK K) | refine catch_normal ?_ | refine awp_skip_k ?_ | refine awp_ret_k ?_ | refine awp_exit_k ?_ | refine awp_block_k ?_ | (refine thn_exit ?_; try clear hK K) | (refine thn_ret ?_; try clear hK K) | refine catch_ret ?_ | refine catch_exit ?_ | (refine catch_other ?_ ?_; focus decide)) | ((with_reducible first | apply aops_guard' | apply aopsD_guard' | apply awp_cond_g); focus (simp only [go_sem, hlt, hat, hat2, cells_enc, pcells_enc, Ty.tc, v1, v2, c1, c2, List.length_map, f1_len, f2_len, hbg]; exact rfl)) | (with_reducible first | refine gk_tt ?_ | refine gk_ff ?_ | refine ck_t ?_ | refine ck_f ?_) | ((with_reducible first | refine gk_tf ?_ | refine gk_ft ?_ | refine gk_u ?_ | refine gk_u' ?_); first | (intro _ e; (first | rw [put_some] at e | rw [put_none] at e); subst e) | (intro _ _ e e'; (first | rw [put_some] at e | rw [put_none] at e); subst e; subst e'))))
                  refine thn_normal ?_
                  refine hK1 _ _ _ _ _ (LeB [0, 1, 4, 5] (by refine ⟨?_, ?_, ?_⟩ <;> simp only [leFr, leFb, leHp, V.ren, V.renL, V.bd, V.bdL, allL, lt, Go.Ab.get, hget, List.map_cons, List.map_nil, List.length_cons, List.length_nil, List.length_append, List.getElem?_cons_zero, List.getElem?_cons_succ, List.getElem?_nil, Option.join_some, Option.join_none, List.getD_cons_zero, List.getD_cons_succ, List.getD_nil, Nat.reduceAdd, Nat.reduceLT, Nat.reduceEqDiff, Nat.zero_add, reduceIte, if_true, if_false, and_true, true_and, renL_vcells, allL_vcells, renL_pv, leBlk_some, eq_self, true_or, or_true, reduceCtorEq, false_or, hw, List.length_append, f1_app, f2_app, List.map_append, renL_tc, allL_tc, renL_cI, allL_cI, allL_app, allL])) (ih rq (pq ++ [q]) (pt ++ [u]) (L ++ a) (by simp [hpq]) (by simp [hpt]) (by simp [hll]) (by simpa using hrl) (by rw [ndsL_end, List.length_append]; omega) he)
            have none_ : ∀ (rt rq pq pt : List Ty), pq ++ rq = qs → pt ++ rt = t.args → pq.length = pt.length → rt.length = rq.length → ocL ps qs t.args = ocL ps rq rt → loopN (awp Try.prog ac148_l0) (catch_ 0 (thn K (retP [RV.tmp 6, RV.tmp 7, RV.tmp 8] [r0, r1, r2]))) (rt.length + 1)
               [(49, .pv (ii pt.length)), (48, .pv (ii t.args.length)), (11, .pv (.lit (.slice none 0 0))), (10, .pv (.lit (.slice none 0 0))), (4, .ptr 1 0 0), (3, .ptr 0 0 0), (2, .pv (.list 1 (encI ps)))]
               [some ⟨false, 26, 3, [[.pv (ii t.kd), .pv (ii t.id), .pv (.list 3 (encL t.args))]], none⟩, some ⟨false, 26, 3, [[.pv (ii k), .pv (ii id), .pv (.list 3 (encL qs))]], none⟩] := by
              intro rt
              induction rt with
              | nil =>
                intro rq pq pt hpq hpt hll hrl he
                have hpt : pt = t.args := by simpa using hpt
                have hq0 : rq = [] := List.eq_nil_of_length_eq_zero (by simpa using hrl.symm)
                subst hq0
                have hlt : decide ((pt.length : Int) < (t.args.length : Int)) = false := by rw [hpt]; exact lt_end _
                rw [he] at hr
                simp only [ocL, ocV, PV.tup.injEq, List.cons.injEq, and_true] at hr
                obtain ⟨rfl, rfl, rfl⟩ := hr
                refine loopN_k fun K1 hK1 => ?_
                unfold ac148_l0
                (repeat' (first | ((with_reducible first | refine aops_cons' fun C hC => ?_ | refine aopsD_cons' fun C hC => ?_ | intro C hC); simp only [go_sem, hlt]; ((with_reducible first | refine finA hC ?_ | refine finD hC ?_); clear hC C)) | (with_reducible first | refine awp_seq_k fun K hK => ?_ | refine awp_reg_k fun K hK => ?_ | refine awp_dreg_k fun K hK => ?_ | (refine aops_nil ?_; refine hK _ _ ?_; try clear hK K) | (refine aopsD_nil ?_; refine hK _ _ _ ?_ ?_; (focus kernel_rfl); try clear hK K) | (refine thn_normal ?_; refine hK _ _ ?_; try clear hK K) | refine catch_normal ?_ | refine awp_skip_k ?_ | refine awp_ret_k ?_ | refine awp_exit_k ?_ | refine awp_block_k ?_ | (refine thn_exit ?_; try clear hK K) | (refine thn_ret ?_; try clear hK K) | refine catch_ret ?_ | refine catch_exit ?_ | (refine catch_other ?_ ?_; focus decide)) | ((with_reducible first | apply aops_guard' | apply aopsD_guard' | apply awp_cond_g); focus (simp only [go_sem, hlt]; exact rfl)) | (with_reducible first | refine gk_tt ?_ | refine gk_ff ?_ | refine ck_t ?_ | refine ck_f ?_) | ((with_reducible first | refine gk_tf ?_ | refine gk_ft ?_ | refine gk_u ?_ | refine gk_u' ?_); first | (intro _ e; (first | rw [put_some] at e | rw [put_none] at e); subst e) | (intro _ _ e e'; (first | rw [put_some] at e | rw [put_none] at e); subst e; subst e'))))
                (refine retP_ret (List.range 40) rfl ?_; (try simp only [f1, f2, encL, encI, List.map_nil, if_true, if_false, Bool.false_eq_true, Bool.not_true, Bool.not_false]); exact vwA)
              | cons u rt ih =>
                intro rq pq pt hpq hpt hll hrl he
                cases rq with
                | nil => simp at hrl
                | cons q rq =>
                have hlt : decide ((pt.length : Int) < (t.args.length : Int)) = true := by rw [← hpt]; exact lt_app _ _ _
                have hat : (encL t.args)[pt.length]? = some u.enc := by rw [← hpt]; exact encL_at _ _ _
                have hat2 : (encL qs)[pt.length]? = some q.enc := by rw [← hll, ← hpq]; exact encL_at _ _ _
                have hw := wrapS (n := pt.length) (by have := congrArg List.length hpt; simp at this; omega)
                have hc := hrec q (by rw [← hpq]; simp) u
                have hn : ndsL pq + nds q ≤ 1099511627776 := by have := ndsL_mid pq rq q; rw [hpq] at this; omega
                refine loopN_k fun K1 hK1 => ?_
                unfold ac148_l0
                cases ho : oc ps q u with
                | none =>
                  rw [ho, eq_enc u, eq_enc q] at hc
                  simp only [ocV] at hc
                  rw [he] at hr
                  simp only [ocL, ho, ocV, PV.tup.injEq, List.cons.injEq, and_true] at hr
                  obtain ⟨rfl, rfl, rfl⟩ := hr
                  (repeat' (first | ((first | (with_reducible refine aops_call fun C hC => ?_) | (with_reducible refine aopsD_call fun C hC => ?_) | ((with_reducible intro C hC); (with_reducible refine ax_call_mp ?_))); (first | (simp only [go_sem, hlt, hat, hat2, cells_enc, pcells_enc, Ty.tc]; (first | ((with_reducible apply ACall.pure0 [] (hc)); (focus (exact vwA)))))); (simp only [PV.scal, PV.scalL, if_true, Bool.and_true, Bool.and_false, Bool.false_and, Bool.true_and, frz, List.map_nil, Bool.false_eq_true, if_false, ite_self, hlt, hat, hat2, cells_enc, pcells_enc, Ty.tc]); ((with_reducible first | refine finA hC ?_ | refine finD hC ?_); clear hC C)) | ((with_reducible first | refine aops_cons' fun C hC => ?_ | refine aopsD_cons' fun C hC => ?_ | intro C hC); simp only [go_sem, hlt, hat, hat2, cells_enc, pcells_enc, Ty.tc]; ((with_reducible first | refine finA hC ?_ | refine finD hC ?_); clear hC C)) | (with_reducible first | refine awp_seq_k fun K hK => ?_ | refine awp_reg_k fun K hK => ?_ | refine awp_dreg_k fun K hK => ?_ | (refine aops_nil ?_; refine hK _ _ ?_; try clear hK K) | (refine aopsD_nil ?_; refine hK _ _ _ ?_ ?_; (focus kernel_rfl); try clear hK K) | (refine thn_normal ?_; refine hK _ _ ?_; try clear hK K) | refine catch_normal ?_ | refine awp_skip_k ?_ | refine awp_ret_k ?_ | refine awp_exit_k ?_ | refine awp_block_k ?_ | (refine thn_exit ?_; try clear hK K) | (refine thn_ret ?_; try clear hK K) | refine catch_ret ?_ | refine catch_exit ?_ | (refine catch_other ?_ ?_; focus decide)) | ((with_reducible first | apply aops_guard' | apply aopsD_guard' | apply awp_cond_g); focus (simp only [go_sem, hlt, hat, hat2, cells_enc, pcells_enc, Ty.tc]; exact rfl)) | (with_reducible first | refine gk_tt ?_ | refine gk_ff ?_ | refine ck_t ?_ | refine ck_f ?_) | ((with_reducible first | refine gk_tf ?_ | refine gk_ft ?_ | refine gk_u ?_ | refine gk_u' ?_); first | (intro _ e; (first | rw [put_some] at e | rw [put_none] at e); subst e) | (intro _ _ e e'; (first | rw [put_some] at e | rw [put_none] at e); subst e; subst e'))))
                  (refine retP_ret (List.range 40) rfl ?_; (try simp only [encL, encI, List.map_nil, if_true, if_false, Bool.false_eq_true, Bool.not_true, Bool.not_false]); exact vwA)
                | some a =>
                  have ha := oc_len ps q u a ho
                  cases a with
                  | nil =>
                    rw [ho, eq_enc u, eq_enc q] at hc
                    have hc : PCall Try.prog 148 [.agg [ii u.kd, ii u.id, .list 3 (encL u.args)], .agg [ii q.kd, ii q.id, .list 3 (encL q.args)], .list 1 (encI ps)] (.tup [.list 1 [], .list 3 [], bb true]) := hc
                    have he : ocL ps qs t.args = ocL ps rq rt := by
                      rw [he]
                      simp only [ocL, ho]
                      cases ocL ps rq rt <;> simp
                    (repeat' (first | ((first | (with_reducible refine aops_call fun C hC => ?_) | (with_reducible refine aopsD_call fun C hC => ?_) | ((with_reducible intro C hC); (with_reducible refine ax_call_mp ?_))); (first | (simp only [go_sem, hlt, hat, hat2, cells_enc, pcells_enc, Ty.tc, List.not_mem_nil, false_imp_iff, implies_true, forall_const]; (first | ((with_reducible apply ACall.pure0 [] (hc)); (focus (exact vwA)))))); (simp only [PV.scal, PV.scalL, if_true, Bool.and_true, Bool.and_false, Bool.false_and, Bool.true_and, frz, List.map_nil, Bool.false_eq_true, if_false, ite_self, hlt, hat, hat2, cells_enc, pcells_enc, Ty.tc, List.not_mem_nil, false_imp_iff, implies_true, forall_const]); ((with_reducible first | refine finA hC ?_ | refine finD hC ?_); clear hC C)) | ((with_reducible first | refine aops_cons' fun C hC => ?_ | refine aopsD_cons' fun C hC => ?_ | intro C hC); simp only [go_sem, hlt, hat, hat2, cells_enc, pcells_enc, Ty.tc, List.not_mem_nil, false_imp_iff, implies_true, forall_const]; ((with_reducible first | refine finA hC ?_ | refine finD hC ?_); clear hC C)) | (with_reducible first | refine awp_seq_k fun K hK => ?_ | refine awp_reg_k fun K hK => ?_ | refine awp_dreg_k fun K hK => ?_ | (refine aops_nil ?_; refine hK _ _ ?_; try clear hK K) | (refine aopsD_nil ?_; refine hK _ _ _ ?_ ?_; (focus kernel_rfl); try clear hK K) | (refine thn_normal ?_; refine hK _ _ ?_; try clear hK K) | refine catch_normal ?_ | refine awp_skip_k ?_ | refine awp_ret_k ?_ | refine awp_exit_k ?_ | refine awp_block_k ?_ | (refine thn_exit ?_; try clear hK K) | (refine thn_ret ?_; try clear hK K) | refine catch_ret ?_ | refine catch_exit ?_ | (refine catch_other ?_ ?_; focus decide)) | ((with_reducible first | apply aops_guard' | apply aopsD_guard' | apply awp_cond_g); focus (simp only [go_sem, hlt, hat, hat2, cells_enc, pcells_enc, Ty.tc, List.not_mem_nil, false_imp_iff, implies_true, forall_const]; exact rfl)) | (with_reducible first | refine gk_tt ?_ | refine gk_ff ?_ | refine ck_t ?_ | refine ck_f ?_) | ((with_reducible first | refine gk_tf ?_ | refine gk_ft ?_ | refine gk_u ?_ | refine gk_u' ?_); first | (intro _ e; (first | rw [put_some] at e | rw [put_none] at e); subst e) | (intro _ _ e e'; (first | rw [put_some] at e | rw [put_none] at e); subst e; subst e'))))
                    refine thn_normal ?_
                    refine hK1 _ _ _ _ _ (LeB [0, 1] (by refine ⟨?_, ?_, ?_⟩ <;> simp only [leFr, leFb, leHp, V.ren, V.renL, V.bd, V.bdL, allL, lt, Go.Ab.get, hget, List.map_cons, List.map_nil, List.length_cons, List.length_nil, List.length_append, List.getElem?_cons_zero, List.getElem?_cons_succ, List.getElem?_nil, Option.join_some, Option.join_none, List.getD_cons_zero, List.getD_cons_succ, List.getD_nil, Nat.reduceAdd, Nat.reduceLT, Nat.reduceEqDiff, Nat.zero_add, reduceIte, if_true, if_false, and_true, true_and, renL_vcells, allL_vcells, renL_pv, leBlk_some, eq_self, true_or, or_true, reduceCtorEq, false_or, hw, List.length_append, allL])) (ih rq (pq ++ [q]) (pt ++ [u]) (by simp [hpq]) (by simp [hpt]) (by simp [hll]) (by simpa using hrl) he)
                  | cons y a =>
                    rw [ho, eq_enc u, eq_enc q] at hc
                    have hc : PCall Try.prog 148 [.agg [ii u.kd, ii u.id, .list 3 (encL u.args)], .agg [ii q.kd, ii q.id, .list 3 (encL q.args)], .list 1 (encI ps)] (.tup [.list 1 (ii y.1 :: encI (f1 a)), .list 3 (y.2.enc :: encL (f2 a)), bb true]) := hc
                    have hbg : a.length + 1 ≤ big := by simp only [List.length_cons] at ha; unfold big; omega
                    have v1 := vcI (f1 a)
                    have v2 := vcP (f2 a)
                    have c1 : (∀ x ∈ (ii y.1 :: encI (f1 a)), x.cells.length = 1) = True := clI (y.1 :: f1 a)
                    have c2 : (∀ x ∈ (y.2.enc :: encL (f2 a)), x.cells.length = 3) = True := clP (y.2 :: f2 a)
                    have he : ocL ps qs t.args = (match ocL ps rq rt with | none => none | some b => some ((y :: a) ++ b)) := by
                      rw [he]
                      simp only [ocL, ho]
                      cases ocL ps rq rt <;> rfl
                    (repeat' (first | ((first | (with_reducible refine aops_call fun C hC => ?_) | (with_reducible refine aopsD_call fun C hC => ?_) | ((with_reducible intro C hC); (with_reducible refine ax_call_mp ?_))); (first | (simp only [go_sem, hlt, hat, hat2, cells_enc, pcells_enc, Ty.tc, v1, v2, c1, c2, List.length_map, List.length_cons, f1_len, f2_len, hbg, reduceCtorEq, ne_eq, not_false_eq_true]; (first | ((with_reducible apply ACall.pure0 [] (hc)); (focus (exact vwA)))))); (simp only [PV.scal, PV.scalL, if_true, Bool.and_true, Bool.and_false, Bool.false_and, Bool.true_and, frz, List.map_nil, Bool.false_eq_true, if_false, ite_self, hlt, hat, hat2, cells_enc, pcells_enc, Ty.tc, v1, v2, c1, c2, List.length_map, List.length_cons, f1_len, f2_len, hbg, reduceCtorEq, ne_eq, not_false_eq_true]); ((with_reducible first | refine finA hC ?_ | refine finD hC ?_); clear hC C)) | ((with_reducible first | refine aops_cons' fun C hC => ?_ | refine aopsD_cons' fun C hC => ?_ | intro C hC); simp only [go_sem, hlt, hat, hat2, cells_enc, pcells_enc, Ty.tc, v1, v2, c1, c2, List.length_map, List.length_cons, f1_len, f2_len, hbg, reduceCtorEq, ne_eq, not_false_eq_true]; ((with_reducible first | refine finA hC ?_ | refine finD hC ?_); clear hC C)) | (with_reducible first | refine awp_seq_k fun K hK => ?_ | refine awp_reg_k fun K hK => ?_ | refine awp_dreg_k fun K hK => ?_ | (refine aops_nil ?_; refine hK _ _ ?_; try clear hK K) | (refine aopsD_nil ?_; refine hK _ _ _ ?_ ?_; (focus kernel_rfl); try clear hK K) | (refine thn_normal ?_; refine hK _ _ ?_; try clear hK K) | refine catch_normal ?_ | refine awp_skip_k ?_ | refine awp_ret_k ?_ | refine awp_exit_k ?_ | refine awp_block_k ?_ | (refine thn_exit ?_; try clear hK K) | (refine thn_ret ?_; try clear hK K) | refine catch_ret ?_ | refine catch_exit ?_ | (refine catch_other ?_ ?_; focus decide)) | ((with_reducible first | apply aops_guard' | apply aopsD_guard' | apply awp_cond_g); focus (simp only [go_sem, hlt, hat, hat2, cells_enc, pcells_enc, Ty.tc, v1, v2, c1, c2, List.length_map, List.length_cons, f1_len, f2_len, hbg, reduceCtorEq, ne_eq, not_false_eq_true]; exact rfl)) | (with_reducible first | refine gk_tt ?_ | refine gk_ff ?_ | refine ck_t ?_ | refine ck_f ?_) | ((with_reducible first | refine gk_tf ?_ | refine gk_ft ?_ | refine gk_u ?_ | refine gk_u' ?_); first | (intro _ e; (first | rw [put_some] at e | rw [put_none] at e); subst e) | (intro _ _ e e'; (first | rw [put_some] at e | rw [put_none] at e); subst e; subst e'))))
                    refine thn_normal ?_
                    refine hK1 _ _ _ _ _ (LeB [0, 1, 2, 3] (by refine ⟨?_, ?_, ?_⟩ <;> simp only [leFr, leFb, leHp, V.ren, V.renL, V.bd, V.bdL, allL, lt, Go.Ab.get, hget, List.map_cons, List.map_nil, List.length_cons, List.length_nil, List.length_append, List.getElem?_cons_zero, List.getElem?_cons_succ, List.getElem?_nil, Option.join_some, Option.join_none, List.getD_cons_zero, List.getD_cons_succ, List.getD_nil, Nat.reduceAdd, Nat.reduceLT, Nat.reduceEqDiff, Nat.zero_add, reduceIte, if_true, if_false, and_true, true_and, renL_vcells, allL_vcells, renL_pv, leBlk_some, eq_self, true_or, or_true, reduceCtorEq, false_or, hw, List.length_append, f1, f2, List.map_cons, List.length_cons, cI, renL_tc, allL_tc, renL_cI, allL_cI, allL, Ty.tc])) (more rt rq (pq ++ [q]) (pt ++ [u]) (y :: a) (by simp [hpq]) (by simp [hpt]) (by simp [hll]) (by simpa using hrl) (by rw [ndsL_end]; omega) he)
            refine awp_loop_k _ (LeB [0, 1] (by refine ⟨?_, ?_, ?_⟩ <;> simp only [leFr, leFb, leHp, V.ren, V.renL, V.bd, V.bdL, allL, lt, Go.Ab.get, hget, List.map_cons, List.map_nil, List.length_cons, List.length_nil, List.length_append, List.getElem?_cons_zero, List.getElem?_cons_succ, List.getElem?_nil, Option.join_some, Option.join_none, List.getD_cons_zero, List.getD_cons_succ, List.getD_nil, Nat.reduceAdd, Nat.reduceLT, Nat.reduceEqDiff, Nat.zero_add, reduceIte, if_true, if_false, and_true, true_and, renL_vcells, allL_vcells, renL_pv, leBlk_some, eq_self, true_or, or_true, reduceCtorEq, false_or, c0, allL])) (none_ t.args qs [] [] rfl rfl rfl hll3 rfl)
  cases h : oc ps (.mk k id qs) t with
  | none => rw [h] at hgen; exact hgen _ _ _ rfl
  | some L => rw [h] at hgen; exact hgen _ _ _ rfl
theorem oc_okk (ps : List Int) : ∀ p : Ty, nds p ≤ 1099511627776 → ∀ t : Ty, PCall Try.prog 148 [t.enc, p.enc, .list 1 (encI ps)] (ocV (oc ps p t))
  | .mk k id qs, hb, t => oc_loop ps k id qs hb (fun q hq u => oc_okk ps q (by have := nds_mem hq; simp only [nds] at hb; omega) u) t
termination_by p => SizeOf.sizeOf p
decreasing_by
  have := List.sizeOf_lt_of_mem hq
  simp only [Ty.mk.sizeOf_spec]; omega
end Go.Proofs.Ytbdoblgofddhdaa
