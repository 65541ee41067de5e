/- Q10: joined from Q10. -/
import Derived.Test.YtbdoblgofddhdaaFnR
import Derived.Test.YtbdoblgofddhdaaQ9
/- Exhaustiveness: useful. -/
set_option maxRecDepth 10000
set_option linter.unusedSimpArgs false
set_option linter.unusedVariables false
namespace Go.Proofs.Ytbdoblgofddhdaa
open Go Go.Ab
-- vwT vwW
theorem useL_any {f : List Int → List (List Ty) → List Ty → Bool} {d : Dm} {cs : List Int} {rows : List (List Ty)} {r : List Ty} : ∀ us : List Ty,
    useL f d cs rows r us = us.any fun q => f (flds d q ++ cs) (spc q.kd q.id (flds d q).length rows) (List.replicate (flds d q).length wT ++ r)
  | [] => rfl
  | q :: us => by
    simp only [useL, List.any_cons, useL_any us]
    cases f (flds d q ++ cs) (spc q.kd q.id (flds d q).length rows) (List.replicate (flds d q).length wT ++ r) <;> simp
theorem dm_enc (d : Dm) : d.enc = .agg [ii d.k, .list 2 (encVr d.vs)] := rfl
theorem ty_enc (u : Ty) : u.enc = .agg [ii u.kd, ii u.id, .list 3 (encL u.args)] := by cases u; rfl
set_option maxHeartbeats 4000000 in
theorem use168 {ds : List Dm} {d : Dm} {c : Int} {cs : List Int} {rows : List (List Ty)} {p : Ty} {r : List Ty} {u : Ty} {b : Bool}
    (hf : (flds d u).length + cs.length ≤ 1000000000) (hr : (flds d u).length + r.length ≤ 1000000000) (hsp : SpB (flds d u).length rows)
    (hrec : PCall Try.prog 110 [.agg [.list 2 (encDm ds)], .list 1 (encI (flds d u ++ cs)), .list 1 (encLLP (spc u.kd u.id (flds d u).length rows)), .list 3 (encL (List.replicate (flds d u).length wT ++ r))] (bb b)) :
    PCall Try.prog 168 ([u.enc] ++ [.rptr [ii d.k, .list 2 (encVr d.vs)], .rptr [.list 2 (encDm ds)], .rptr [.list 1 (encI (c :: cs))], .rptr [.list 1 (encLLP rows)], .rptr [.list 3 (encL (p :: r))]]) (bb b) := by
  have hfl := fields_ok d u
  rw [dm_enc, ty_enc] at hfl
  have hc2 := concatI2 (flds d u) cs (by omega)
  have hs1 := slI c cs
  have hs2 := sl1 p r
  have hspc := spc_ok rows u.kd u.id (flds d u).length hsp
  have hcP := concat2 (List.replicate (flds d u).length wT) r (by simp; omega)
  have hnb : (flds d u).length ≤ big := by unfold big; omega
  refine PCall.intro (ps := [bb b]) fn168 (by simp) ?_
  unfold ac168
  simp only [argFr, List.cons_append, List.nil_append]
  (repeat' (first | ((first | (with_reducible refine aops_call fun C hC => ?_) | (with_reducible refine aopsD_call fun C hC => ?_) | ((with_reducible intro C hC); (with_reducible refine ax_call_mp ?_))); (first | (simp only [go_sem, cells_enc, pcells_enc, Ty.tc, encI_len, encL_len, List.length_cons, one_le, hs1, hs2, hnb]; (first | ((with_reducible apply ACall.pure0 [] (hfl)); (focus ((first | exact vwA | exact vwT | exact vwW)))) | ((with_reducible apply ACall.pure0 [5] (hc2)); (focus ((first | exact vwA | exact vwT | exact vwW)))) | ((with_reducible apply ACall.pure0 [] (hspc)); (focus ((first | exact vwA | exact vwT | exact vwW)))) | ((with_reducible apply ACall.pure0 [17, 20] (hcP)); (focus ((first | exact vwA | exact vwT | exact vwW)))) | ((with_reducible apply ACall.pure0 [] (hrec)); (focus ((first | exact vwA | exact vwT | exact vwW))))))); (simp only [PV.scal, PV.scalL, if_true, Bool.and_true, Bool.and_false, Bool.false_and, Bool.true_and, frz, List.map_nil, Bool.false_eq_true, if_false, ite_self, go_sem, cells_enc, pcells_enc, Ty.tc, encI_len, encL_len, List.length_cons, one_le, hs1, hs2, hnb]); ((with_reducible first | refine finA hC ?_ | refine finD hC ?_); clear hC C)) | ((with_reducible first | refine aops_cons' fun C hC => ?_ | refine aopsD_cons' fun C hC => ?_ | intro C hC); simp only [go_sem, cells_enc, pcells_enc, Ty.tc, encI_len, encL_len, List.length_cons, one_le, hs1, hs2, hnb]; ((with_reducible first | refine finA hC ?_ | refine finD hC ?_); clear hC C)) | (with_reducible first | refine awp_seq_k fun K hK => ?_ | refine awp_reg_k fun K hK => ?_ | refine awp_dreg_k fun K hK => ?_ | (refine aops_nil ?_; refine hK _ _ ?_; try clear hK K) | (refine aopsD_nil ?_; refine hK _ _ _ ?_ ?_; (focus kernel_rfl); try clear hK K) | (refine thn_normal ?_; refine hK _ _ ?_; try clear hK K) | refine catch_normal ?_ | refine awp_skip_k ?_ | refine awp_ret_k ?_ | refine awp_exit_k ?_ | refine awp_block_k ?_ | (refine thn_exit ?_; try clear hK K) | (refine thn_ret ?_; try clear hK K) | refine catch_ret ?_ | refine catch_exit ?_ | (refine catch_other ?_ ?_; focus decide)) | ((with_reducible first | apply aops_guard' | apply aopsD_guard' | apply awp_cond_g); focus (simp only [go_sem, cells_enc, pcells_enc, Ty.tc, encI_len, encL_len, List.length_cons, one_le, hs1, hs2, hnb]; exact rfl)) | (with_reducible first | refine gk_tt ?_ | refine gk_ff ?_ | refine ck_t ?_ | refine ck_f ?_) | ((with_reducible first | refine gk_tf ?_ | refine gk_ft ?_ | refine gk_u ?_ | refine gk_u' ?_); first | (intro _ e; (first | rw [put_some] at e | rw [put_none] at e); subst e) | (intro _ _ e e'; (first | rw [put_some] at e | rw [put_none] at e); subst e; subst e'))))
  (refine retP_ret (List.range 40) rfl ?_; (first | exact vwA | exact vwT | exact vwW))
set_option maxHeartbeats 4000000 in
theorem use_ok {ds : List Dm} (hD : DsOk ds) (hF : FsOk ds) : ∀ (n : Nat) (cols : List Int) (rows : List (List Ty)) (row : List Ty), (∀ c ∈ cols, cOk ds c) → (∀ r ∈ rows, confL ds r cols = true) → confL ds row cols = true → 5 * (cnR rows + cnL row) + cols.length < n → n ≤ 100000000 →
    PCall Try.prog 110 [.agg [.list 2 (encDm ds)], .list 1 (encI cols), .list 1 (encLLP rows), .list 3 (encL row)] (bb (use ds n cols rows row))
  | 0, _, _, _, _, _, _, h, _ => by omega
  | n + 1, [], rows, row, _, _, _, _, _ => by
    refine PCall.intro (ps := [bb (use ds (n + 1) [] rows row)]) fn110 (by simp) ?_
    unfold ac110
    simp only [argFr]
    have h0 : ((rows.length : Int) == 0) = (rows.length == 0) := by
      rw [Bool.eq_iff_iff]; simp
    cases h1 : (rows.length == 0) with
    | true =>
      (repeat' (first | ((with_reducible first | refine aops_cons' fun C hC => ?_ | refine aopsD_cons' fun C hC => ?_ | intro C hC); simp only [go_sem, encI_len, encLLP_len, List.length_nil, Int.ofNat_zero, h0, h1]; ((with_reducible first | refine finA hC ?_ | refine finD hC ?_); clear hC C)) | (with_reducible first | refine awp_seq_k fun K hK => ?_ | refine awp_reg_k fun K hK => ?_ | refine awp_dreg_k fun K hK => ?_ | (refine aops_nil ?_; refine hK _ _ ?_; try clear hK K) | (refine aopsD_nil ?_; refine hK _ _ _ ?_ ?_; (focus kernel_rfl); try clear hK K) | (refine thn_normal ?_; refine hK _ _ ?_; try clear hK K) | refine catch_normal ?_ | refine awp_skip_k ?_ | refine awp_ret_k ?_ | refine awp_exit_k ?_ | refine awp_block_k ?_ | (refine thn_exit ?_; try clear hK K) | (refine thn_ret ?_; try clear hK K) | refine catch_ret ?_ | refine catch_exit ?_ | (refine catch_other ?_ ?_; focus decide)) | ((with_reducible first | apply aops_guard' | apply aopsD_guard' | apply awp_cond_g); focus (simp only [go_sem, encI_len, encLLP_len, List.length_nil, Int.ofNat_zero, h0, h1]; exact rfl)) | (with_reducible first | refine gk_tt ?_ | refine gk_ff ?_ | refine ck_t ?_ | refine ck_f ?_) | ((with_reducible first | refine gk_tf ?_ | refine gk_ft ?_ | refine gk_u ?_ | refine gk_u' ?_); first | (intro _ e; (first | rw [put_some] at e | rw [put_none] at e); subst e) | (intro _ _ e e'; (first | rw [put_some] at e | rw [put_none] at e); subst e; subst e'))))
      (refine retP_ret (List.range 40) rfl ?_; (try simp only [use, h1, if_true, if_false, Bool.false_eq_true, Bool.not_true, Bool.not_false]); (first | exact vwA | exact vwT | exact vwW))
    | false =>
      (repeat' (first | ((with_reducible first | refine aops_cons' fun C hC => ?_ | refine aopsD_cons' fun C hC => ?_ | intro C hC); simp only [go_sem, encI_len, encLLP_len, List.length_nil, Int.ofNat_zero, h0, h1]; ((with_reducible first | refine finA hC ?_ | refine finD hC ?_); clear hC C)) | (with_reducible first | refine awp_seq_k fun K hK => ?_ | refine awp_reg_k fun K hK => ?_ | refine awp_dreg_k fun K hK => ?_ | (refine aops_nil ?_; refine hK _ _ ?_; try clear hK K) | (refine aopsD_nil ?_; refine hK _ _ _ ?_ ?_; (focus kernel_rfl); try clear hK K) | (refine thn_normal ?_; refine hK _ _ ?_; try clear hK K) | refine catch_normal ?_ | refine awp_skip_k ?_ | refine awp_ret_k ?_ | refine awp_exit_k ?_ | refine awp_block_k ?_ | (refine thn_exit ?_; try clear hK K) | (refine thn_ret ?_; try clear hK K) | refine catch_ret ?_ | refine catch_exit ?_ | (refine catch_other ?_ ?_; focus decide)) | ((with_reducible first | apply aops_guard' | apply aopsD_guard' | apply awp_cond_g); focus (simp only [go_sem, encI_len, encLLP_len, List.length_nil, Int.ofNat_zero, h0, h1]; exact rfl)) | (with_reducible first | refine gk_tt ?_ | refine gk_ff ?_ | refine ck_t ?_ | refine ck_f ?_) | ((with_reducible first | refine gk_tf ?_ | refine gk_ft ?_ | refine gk_u ?_ | refine gk_u' ?_); first | (intro _ e; (first | rw [put_some] at e | rw [put_none] at e); subst e) | (intro _ _ e e'; (first | rw [put_some] at e | rw [put_none] at e); subst e; subst e'))))
      (refine retP_ret (List.range 40) rfl ?_; (try simp only [use, h1, if_true, if_false, Bool.false_eq_true, Bool.not_true, Bool.not_false]); (first | exact vwA | exact vwT | exact vwW))
  | n + 1, c :: cs, rows, row, hcs, hrr, hrow, hm, hn => by
    obtain ⟨p, r, rfl, hp, hr⟩ := row_split hrow
    have hc := hcs c (by simp)
    obtain ⟨i, rfl⟩ := Int.eq_ofNat_of_zero_le hc.1
    obtain ⟨d, hd⟩ := cOk_get hc
    have hd' := hd
    simp only [Int.toNat_natCast] at hd'
    have hct := ctr_ok rows (fun row h => by obtain ⟨p, r, rfl, _⟩ := row_split (hrr row h); simp)
    have hab := absn_ok d (ctr rows [])
    have hcsl : cs.length ≤ 100000000 := by simp only [List.length_cons] at hm; omega
    have hrl := confL_len hr
    have hdf := dfl_ok rows (spB_of hD hrr (by omega))
    have hle := cnR_spc (-1) 0 0 rows
    have hat := encDm_get hd'
    have hhd := encI_hd i cs
    have hhp := encL_hd p r
    have hs1 := slI i cs
    have hs2 := sl1 p r
    have hnz : (((cs.length + 1 : Nat) : Int) == 0) = false := by rw [beq_eq_false_iff_ne]; omega
    have hcn : cnL (p :: r) = cn p + cnL r := by simp only [cnL]
    have hdr := use_ok hD hF n cs (dfl rows) r (fun x hx => hcs x (by simp [hx])) (dfl_conf hD hrr) hr (by simp only [List.length_cons] at hm; unfold dfl; omega) (by omega)
    have hst := fun u (hu : u ∈ ctr rows []) => step_u (n := n - 5 * cnL (p :: r)) hD hF hcs hd hrr (by omega) hu
    have hany : PCall Try.prog 167 [.list 3 (encL (ctr rows [])), .fn 168 [.rptr [ii d.k, .list 2 (encVr d.vs)], .rptr [.list 2 (encDm ds)], .rptr [.list 1 (encI (i :: cs))], .rptr [.list 1 (encLLP rows)], .rptr [.list 3 (encL (p :: r))]]] (bb (useL (use ds n) d cs rows r (ctr rows []))) := by
      rw [useL_any]
      refine hasP_ok 168 _ _ (ctr rows []) fun u hu => ?_
      obtain ⟨h1, h2, h3, h4⟩ := hst u hu
      have hx : cnL (List.replicate (flds d u).length wT ++ r) = cnL r := by rw [cnL_app, cnL_wild, Nat.zero_add]
      refine use168 (by omega) (by omega) (spB_of hD hrr (by omega)) (use_ok hD hF n _ _ _ h1 h2 ?_ (by rw [hx]; omega) (by omega))
      rw [confL_app (by simp), confL_wild (fun f hf => flds_cOk hF (dom_mem hd) u f hf), hr]; rfl
    rw [dm_enc] at hab
    generalize hb : use ds (n + 1) (i :: cs) rows (p :: r) = b
    simp only [use, hd] at hb
    refine PCall.intro (ps := [bb b]) fn110 (by simp) ?_
    unfold ac110
    simp only [argFr]
    cases h0 : (p.kd == 0) with
    | false =>
      have h0' : p.kd ≠ 0 := by simpa using h0
      obtain ⟨_, f2, f3, _⟩ := flds_ok hD hd hp h0'
      have f4 := flds_le hD (dom_mem hd) p
      have hcp := cn_ne0 h0'
      have hlesp := cnR_spc p.kd p.id (flds d p).length rows
      have hrec := use_ok hD hF n (flds d p ++ cs) (spc p.kd p.id (flds d p).length rows) (p.args ++ r) (fun x hx => by
          rcases List.mem_append.1 hx with hx | hx
          · exact flds_cOk hF (dom_mem hd) p x hx
          · exact hcs x (by simp [hx])) (spc_conf hD hF hd hrr hp h0') (by rw [confL_app f2.symm, f3, hr]; rfl) (by rw [cnL_app]; simp only [List.length_append, List.length_cons] at hm ⊢; omega) (by omega)
      have hfl := fields_ok d p
      rw [dm_enc, ty_enc] at hfl
      have hc2 := concatI2 (flds d p) cs (by omega)
      have hspc := spc_ok rows p.kd p.id (flds d p).length (spB_of hD hrr (by omega))
      have hcP := concat2 p.args r (by omega)
      clear hany hst hdr hab hct hdf
      simp only [h0, Bool.not_false, if_true] at hb
      subst hb
      (repeat' (first | ((first | (with_reducible refine aops_call fun C hC => ?_) | (with_reducible refine aopsD_call fun C hC => ?_) | ((with_reducible intro C hC); (with_reducible refine ax_call_mp ?_))); (first | (simp only [go_sem, encI_len, encLLP_len, encL_len, List.length_cons, hnz, hhd, hhp, hat, pcells_dm, cells_enc, pcells_enc, Ty.tc, one_le, hs1, hs2, bne, h0]; (first | ((with_reducible apply ACall.pure0 [] (hfl)); (focus ((first | exact vwA | exact vwT | exact vwW)))) | ((with_reducible apply ACall.pure0 [20] (hc2)); (focus ((first | exact vwA | exact vwT | exact vwW)))) | ((with_reducible apply ACall.pure0 [] (hspc)); (focus ((first | exact vwA | exact vwT | exact vwW)))) | ((with_reducible apply ACall.pure0 [34] (hcP)); (focus ((first | exact vwA | exact vwT | exact vwW)))) | ((with_reducible apply ACall.pure0 [] (hrec)); (focus ((first | exact vwA | exact vwT | exact vwW))))))); (simp only [PV.scal, PV.scalL, if_true, Bool.and_true, Bool.and_false, Bool.false_and, Bool.true_and, frz, List.map_nil, Bool.false_eq_true, if_false, ite_self, go_sem, encI_len, encLLP_len, encL_len, List.length_cons, hnz, hhd, hhp, hat, pcells_dm, cells_enc, pcells_enc, Ty.tc, one_le, hs1, hs2, bne, h0]); ((with_reducible first | refine finA hC ?_ | refine finD hC ?_); clear hC C)) | ((with_reducible first | refine aops_cons' fun C hC => ?_ | refine aopsD_cons' fun C hC => ?_ | intro C hC); simp only [go_sem, encI_len, encLLP_len, encL_len, List.length_cons, hnz, hhd, hhp, hat, pcells_dm, cells_enc, pcells_enc, Ty.tc, one_le, hs1, hs2, bne, h0]; ((with_reducible first | refine finA hC ?_ | refine finD hC ?_); clear hC C)) | (with_reducible first | refine awp_seq_k fun K hK => ?_ | refine awp_reg_k fun K hK => ?_ | refine awp_dreg_k fun K hK => ?_ | (refine aops_nil ?_; refine hK _ _ ?_; try clear hK K) | (refine aopsD_nil ?_; refine hK _ _ _ ?_ ?_; (focus kernel_rfl); try clear hK K) | (refine thn_normal ?_; refine hK _ _ ?_; try clear hK K) | refine catch_normal ?_ | refine awp_skip_k ?_ | refine awp_ret_k ?_ | refine awp_exit_k ?_ | refine awp_block_k ?_ | (refine thn_exit ?_; try clear hK K) | (refine thn_ret ?_; try clear hK K) | refine catch_ret ?_ | refine catch_exit ?_ | (refine catch_other ?_ ?_; focus decide)) | ((with_reducible first | apply aops_guard' | apply aopsD_guard' | apply awp_cond_g); focus (simp only [go_sem, encI_len, encLLP_len, encL_len, List.length_cons, hnz, hhd, hhp, hat, pcells_dm, cells_enc, pcells_enc, Ty.tc, one_le, hs1, hs2, bne, h0]; exact rfl)) | (with_reducible first | refine gk_tt ?_ | refine gk_ff ?_ | refine ck_t ?_ | refine ck_f ?_) | ((with_reducible first | refine gk_tf ?_ | refine gk_ft ?_ | refine gk_u ?_ | refine gk_u' ?_); first | (intro _ e; (first | rw [put_some] at e | rw [put_none] at e); subst e) | (intro _ _ e e'; (first | rw [put_some] at e | rw [put_none] at e); subst e; subst e'))))
      (refine retP_ret (List.range 40) rfl ?_; (first | exact vwA | exact vwT | exact vwW))
    | true =>
      simp only [h0, Bool.not_true, Bool.false_eq_true, if_false] at hb
      cases ha : absn d (ctr rows []) with
      | none =>
        rw [ha] at hab
        simp only [optV] at hab
        simp only [useA, ha, Bool.false_eq_true, if_false] at hb
        subst hb
        (repeat' (first | ((first | (with_reducible refine aops_call fun C hC => ?_) | (with_reducible refine aopsD_call fun C hC => ?_) | ((with_reducible intro C hC); (with_reducible refine ax_call_mp ?_))); (first | (simp only [go_sem, encI_len, encLLP_len, encL_len, List.length_cons, hnz, hhd, hhp, hat, pcells_dm, cells_enc, pcells_enc, Ty.tc, one_le, hs1, hs2, bne, h0]; (first | ((with_reducible apply ACall.pure0 [] (hct)); (focus ((first | exact vwA | exact vwT | exact vwW)))) | ((with_reducible apply ACall.pure0 [] (hab)); (focus ((first | exact vwA | exact vwT | exact vwW)))) | ((with_reducible apply ACall.pure0 [0, 1, 2, 3, 14] (hany)); (focus ((first | exact vwA | exact vwT | exact vwW))))))); (simp only [PV.scal, PV.scalL, if_true, Bool.and_true, Bool.and_false, Bool.false_and, Bool.true_and, frz, List.map_nil, Bool.false_eq_true, if_false, ite_self, go_sem, encI_len, encLLP_len, encL_len, List.length_cons, hnz, hhd, hhp, hat, pcells_dm, cells_enc, pcells_enc, Ty.tc, one_le, hs1, hs2, bne, h0]); ((with_reducible first | refine finA hC ?_ | refine finD hC ?_); clear hC C)) | ((with_reducible first | refine aops_cons' fun C hC => ?_ | refine aopsD_cons' fun C hC => ?_ | intro C hC); simp only [go_sem, encI_len, encLLP_len, encL_len, List.length_cons, hnz, hhd, hhp, hat, pcells_dm, cells_enc, pcells_enc, Ty.tc, one_le, hs1, hs2, bne, h0]; ((with_reducible first | refine finA hC ?_ | refine finD hC ?_); clear hC C)) | (with_reducible first | refine awp_seq_k fun K hK => ?_ | refine awp_reg_k fun K hK => ?_ | refine awp_dreg_k fun K hK => ?_ | (refine aops_nil ?_; refine hK _ _ ?_; try clear hK K) | (refine aopsD_nil ?_; refine hK _ _ _ ?_ ?_; (focus kernel_rfl); try clear hK K) | (refine thn_normal ?_; refine hK _ _ ?_; try clear hK K) | refine catch_normal ?_ | refine awp_skip_k ?_ | refine awp_ret_k ?_ | refine awp_exit_k ?_ | refine awp_block_k ?_ | (refine thn_exit ?_; try clear hK K) | (refine thn_ret ?_; try clear hK K) | refine catch_ret ?_ | refine catch_exit ?_ | (refine catch_other ?_ ?_; focus decide)) | ((with_reducible first | apply aops_guard' | apply aopsD_guard' | apply awp_cond_g); focus (simp only [go_sem, encI_len, encLLP_len, encL_len, List.length_cons, hnz, hhd, hhp, hat, pcells_dm, cells_enc, pcells_enc, Ty.tc, one_le, hs1, hs2, bne, h0]; exact rfl)) | (with_reducible first | refine gk_tt ?_ | refine gk_ff ?_ | refine ck_t ?_ | refine ck_f ?_) | ((with_reducible first | refine gk_tf ?_ | refine gk_ft ?_ | refine gk_u ?_ | refine gk_u' ?_); first | (intro _ e; (first | rw [put_some] at e | rw [put_none] at e); subst e) | (intro _ _ e e'; (first | rw [put_some] at e | rw [put_none] at e); subst e; subst e'))))
        (refine retP_ret (List.range 40) rfl ?_; (first | exact vwA | exact vwT | exact vwW))
      | some q =>
        rw [ha] at hab
        simp only [optV, ty_enc q] at hab
        cases hu : use ds n cs (dfl rows) r with
        | true =>
          rw [hu] at hdr
          simp only [useA, ha, hu, if_true] at hb
          subst hb
          (repeat' (first | ((first | (with_reducible refine aops_call fun C hC => ?_) | (with_reducible refine aopsD_call fun C hC => ?_) | ((with_reducible intro C hC); (with_reducible refine ax_call_mp ?_))); (first | (simp only [go_sem, encI_len, encLLP_len, encL_len, List.length_cons, hnz, hhd, hhp, hat, pcells_dm, cells_enc, pcells_enc, Ty.tc, one_le, hs1, hs2, bne, h0]; (first | ((with_reducible apply ACall.pure0 [] (hct)); (focus ((first | exact vwA | exact vwT | exact vwW)))) | ((with_reducible apply ACall.pure0 [] (hab)); (focus ((first | exact vwA | exact vwT | exact vwW)))) | ((with_reducible apply ACall.pure0 [] (hdf)); (focus ((first | exact vwA | exact vwT | exact vwW)))) | ((with_reducible apply ACall.pure0 [] (hdr)); (focus ((first | exact vwA | exact vwT | exact vwW))))))); (simp only [PV.scal, PV.scalL, if_true, Bool.and_true, Bool.and_false, Bool.false_and, Bool.true_and, frz, List.map_nil, Bool.false_eq_true, if_false, ite_self, encI_len, encLLP_len, encL_len, List.length_cons, hnz, hhd, hhp, hat, pcells_dm, cells_enc, pcells_enc, Ty.tc, one_le, hs1, hs2, bne, h0]); ((with_reducible first | refine finA hC ?_ | refine finD hC ?_); clear hC C)) | ((with_reducible first | refine aops_cons' fun C hC => ?_ | refine aopsD_cons' fun C hC => ?_ | intro C hC); simp only [go_sem, encI_len, encLLP_len, encL_len, List.length_cons, hnz, hhd, hhp, hat, pcells_dm, cells_enc, pcells_enc, Ty.tc, one_le, hs1, hs2, bne, h0]; ((with_reducible first | refine finA hC ?_ | refine finD hC ?_); clear hC C)) | (with_reducible first | refine awp_seq_k fun K hK => ?_ | refine awp_reg_k fun K hK => ?_ | refine awp_dreg_k fun K hK => ?_ | (refine aops_nil ?_; refine hK _ _ ?_; try clear hK K) | (refine aopsD_nil ?_; refine hK _ _ _ ?_ ?_; (focus kernel_rfl); try clear hK K) | (refine thn_normal ?_; refine hK _ _ ?_; try clear hK K) | refine catch_normal ?_ | refine awp_skip_k ?_ | refine awp_ret_k ?_ | refine awp_exit_k ?_ | refine awp_block_k ?_ | (refine thn_exit ?_; try clear hK K) | (refine thn_ret ?_; try clear hK K) | refine catch_ret ?_ | refine catch_exit ?_ | (refine catch_other ?_ ?_; focus decide)) | ((with_reducible first | apply aops_guard' | apply aopsD_guard' | apply awp_cond_g); focus (simp only [go_sem, encI_len, encLLP_len, encL_len, List.length_cons, hnz, hhd, hhp, hat, pcells_dm, cells_enc, pcells_enc, Ty.tc, one_le, hs1, hs2, bne, h0]; exact rfl)) | (with_reducible first | refine gk_tt ?_ | refine gk_ff ?_ | refine ck_t ?_ | refine ck_f ?_) | ((with_reducible first | refine gk_tf ?_ | refine gk_ft ?_ | refine gk_u ?_ | refine gk_u' ?_); first | (intro _ e; (first | rw [put_some] at e | rw [put_none] at e); subst e) | (intro _ _ e e'; (first | rw [put_some] at e | rw [put_none] at e); subst e; subst e'))))
          (refine retP_ret (List.range 40) rfl ?_; (first | exact vwA | exact vwT | exact vwW))
        | false =>
          rw [hu] at hdr
          simp only [useA, ha, hu, Bool.false_eq_true, if_false] at hb
          subst hb
          (repeat' (first | ((first | (with_reducible refine aops_call fun C hC => ?_) | (with_reducible refine aopsD_call fun C hC => ?_) | ((with_reducible intro C hC); (with_reducible refine ax_call_mp ?_))); (first | (simp only [go_sem, encI_len, encLLP_len, encL_len, List.length_cons, hnz, hhd, hhp, hat, pcells_dm, cells_enc, pcells_enc, Ty.tc, one_le, hs1, hs2, bne, h0]; (first | ((with_reducible apply ACall.pure0 [] (hct)); (focus ((first | exact vwA | exact vwT | exact vwW)))) | ((with_reducible apply ACall.pure0 [] (hab)); (focus ((first | exact vwA | exact vwT | exact vwW)))) | ((with_reducible apply ACall.pure0 [] (hdf)); (focus ((first | exact vwA | exact vwT | exact vwW)))) | ((with_reducible apply ACall.pure0 [] (hdr)); (focus ((first | exact vwA | exact vwT | exact vwW)))) | ((with_reducible apply ACall.pure0 [0, 1, 2, 3, 14] (hany)); (focus ((first | exact vwA | exact vwT | exact vwW))))))); (simp only [PV.scal, PV.scalL, if_true, Bool.and_true, Bool.and_false, Bool.false_and, Bool.true_and, frz, List.map_nil, Bool.false_eq_true, if_false, ite_self, go_sem, encI_len, encLLP_len, encL_len, List.length_cons, hnz, hhd, hhp, hat, pcells_dm, cells_enc, pcells_enc, Ty.tc, one_le, hs1, hs2, bne, h0]); ((with_reducible first | refine finA hC ?_ | refine finD hC ?_); clear hC C)) | ((with_reducible first | refine aops_cons' fun C hC => ?_ | refine aopsD_cons' fun C hC => ?_ | intro C hC); simp only [go_sem, encI_len, encLLP_len, encL_len, List.length_cons, hnz, hhd, hhp, hat, pcells_dm, cells_enc, pcells_enc, Ty.tc, one_le, hs1, hs2, bne, h0]; ((with_reducible first | refine finA hC ?_ | refine finD hC ?_); clear hC C)) | (with_reducible first | refine awp_seq_k fun K hK => ?_ | refine awp_reg_k fun K hK => ?_ | refine awp_dreg_k fun K hK => ?_ | (refine aops_nil ?_; refine hK _ _ ?_; try clear hK K) | (refine aopsD_nil ?_; refine hK _ _ _ ?_ ?_; (focus kernel_rfl); try clear hK K) | (refine thn_normal ?_; refine hK _ _ ?_; try clear hK K) | refine catch_normal ?_ | refine awp_skip_k ?_ | refine awp_ret_k ?_ | refine awp_exit_k ?_ | refine awp_block_k ?_ | (refine thn_exit ?_; try clear hK K) | (refine thn_ret ?_; try clear hK K) | refine catch_ret ?_ | refine catch_exit ?_ | (refine catch_other ?_ ?_; focus decide)) | ((with_reducible first | apply aops_guard' | apply aopsD_guard' | apply awp_cond_g); focus (simp only [go_sem, encI_len, encLLP_len, encL_len, List.length_cons, hnz, hhd, hhp, hat, pcells_dm, cells_enc, pcells_enc, Ty.tc, one_le, hs1, hs2, bne, h0]; exact rfl)) | (with_reducible first | refine gk_tt ?_ | refine gk_ff ?_ | refine ck_t ?_ | refine ck_f ?_) | ((with_reducible first | refine gk_tf ?_ | refine gk_ft ?_ | refine gk_u ?_ | refine gk_u' ?_); first | (intro _ e; (first | rw [put_some] at e | rw [put_none] at e); subst e) | (intro _ _ e e'; (first | rw [put_some] at e | rw [put_none] at e); subst e; subst e'))))
          (refine retP_ret (List.range 40) rfl ?_; (first | exact vwA | exact vwT | exact vwW))
end Go.Proofs.Ytbdoblgofddhdaa
