/- Q14: joined from Q14. -/
import Derived.Test.YtbdoblgofddhdaaFnR
import Derived.Test.YtbdoblgofddhdaaQ13
/- Exhaustiveness: Missing, Redundant. -/
set_option maxRecDepth 10000
set_option linter.unusedSimpArgs false
set_option linter.unusedVariables false
namespace Go.Proofs.Ytbdoblgofddhdaa
open Go Go.Ab
-- vwT vwW
theorem valRows_spec {ds : List Dm} {cols : List Int} : ∀ {rows : List (List Ty)}, valRows ds cols rows = 0 → ∀ row ∈ rows, row.length = cols.length ∧ pctL row 1 ≤ 21 ∧ confL ds row cols = true
  | [], _ => by simp
  | row :: rows, h => by
    simp only [valRows] at h
    cases h1 : (row.length == cols.length) with
    | false => simp [h1] at h
    | true =>
      cases h2 : decide ((pctL row 1 : Int) > 21) with
      | true => simp [h1, h2] at h
      | false =>
        cases h3 : confL ds row cols with
        | false => simp [h1, h2, h3] at h
        | true =>
          simp only [h1, h2, h3, Bool.not_true, Bool.false_eq_true, if_false, if_true] at h
          intro r hr
          rcases List.mem_cons.1 hr with rfl | hr
          · exact ⟨by simpa using h1, by simp at h2; omega, h3⟩
          · exact valRows_spec h r hr
/-- what Validate's answer says -/
theorem valR_spec {ds : List Dm} {cols : List Int} {rows : List (List Ty)} (h : valR ds cols rows = 0) : DsOk ds ∧ FsOk ds ∧ (∀ c ∈ cols, cOk ds c) ∧ (∀ row ∈ rows, confL ds row cols = true) ∧ ds.length ≤ 20 ∧ cols.length ≤ 6 ∧ rows.length ≤ 12 ∧ ∀ row ∈ rows, row.length = cols.length ∧ pctL row 1 ≤ 21 := by
  unfold valR at h
  generalize hb0 : (if (if decide ((ds.length : Int) > 20) then true else decide ((cols.length : Int) > 6)) then true else decide ((rows.length : Int) > 12)) = b0 at h
  cases ht : tooD ds b0 with
  | true => rw [ht] at h; simp at h
  | false =>
    rw [ht] at h
    simp only [Bool.false_eq_true, if_false] at h
    cases h1 : ds.any (fun d => !vvD ds d) with
    | true => rw [h1] at h; simp at h
    | false =>
      cases h2 : cols.any (fun c => !vdom ds c) with
      | true => rw [h1, h2] at h; simp at h
      | false =>
        rw [h1, h2] at h
        simp only [Bool.false_eq_true, if_false] at h
        obtain ⟨e1, e2, e3, e4⟩ := val_dom h1
        obtain ⟨e5, e6⟩ := tooD_spec ht
        have er := valRows_spec h
        rw [e5] at hb0
        have hA : ds.length ≤ 20 := by
          by_cases h : ds.length ≤ 20
          · exact h
          · have : decide ((ds.length : Int) > 20) = true := by simp; omega
            rw [this] at hb0; simp at hb0
        have hA' : decide ((ds.length : Int) > 20) = false := by simp; omega
        rw [hA'] at hb0
        have hB : cols.length ≤ 6 := by
          by_cases h : cols.length ≤ 6
          · exact h
          · have : decide ((cols.length : Int) > 6) = true := by simp; omega
            rw [this] at hb0; simp at hb0
        have hB' : decide ((cols.length : Int) > 6) = false := by simp; omega
        rw [hB'] at hb0
        have hC : rows.length ≤ 12 := by
          by_cases h : rows.length ≤ 12
          · exact h
          · have : decide ((rows.length : Int) > 12) = true := by simp; omega
            rw [this] at hb0; simp at hb0
        refine ⟨⟨e2, e3, e4, fun d hd => (e6 d hd).2⟩, e1, fun c hc => ?_, fun row hr => (er row hr).2.2, hA, hB, hC, fun row hr => ⟨(er row hr).1, (er row hr).2.1⟩⟩
        rw [← vdom_iff]
        cases hv : vdom ds c with
        | true => rfl
        | false =>
          have : cols.any (fun c => !vdom ds c) = true := List.any_eq_true.2 ⟨c, hc, by simp [hv]⟩
          rw [h2] at this; cases this
def fuel (cols : List Int) (rows : List (List Ty)) : Nat := 5 * cnR rows + cols.length + 1
def missR (ds : List Dm) (cols : List Int) (rows : List (List Ty)) : Option (List Ty) := if valR ds cols rows == 0 then mis ds (fuel cols rows) cols rows else none
theorem missing_ok (ds : List Dm) (cols : List Int) (rows : List (List Ty)) (hsz : ∀ row ∈ rows, ndsL row ≤ 100000000000) (hfu : 5 * cnR rows + cols.length + 1 ≤ 100000000) :
    PCall Try.prog 42 [.list 2 (encDm ds), .list 1 (encI cols), .list 1 (encLLP rows)] (misV (missR ds cols rows)) := by
  have hv := val_ok ds cols rows hsz
  have hgen : ∀ r0 r1, misV (missR ds cols rows) = .tup [r0, r1] → PCall Try.prog 42 [.list 2 (encDm ds), .list 1 (encI cols), .list 1 (encLLP rows)] (.tup [r0, r1]) := by
    intro r0 r1 hr
    refine PCall.intro (ps := [r0, r1]) fn42 (by simp) ?_
    unfold ac42
    simp only [argFr]
    unfold missR at hr
    cases h0 : (valR ds cols rows == 0) with
    | false =>
      simp only [h0, Bool.false_eq_true, if_false, misV, PV.tup.injEq, List.cons.injEq, and_true] at hr
      obtain ⟨rfl, rfl⟩ := hr
      (repeat' (first | ((first | (with_reducible refine aops_call fun C hC => ?_) | (with_reducible refine aopsD_call fun C hC => ?_) | ((with_reducible intro C hC); (with_reducible refine ax_call_mp ?_))); (first | (simp only [go_sem, bne, h0]; (first | ((with_reducible apply ACall.pure0 [] (hv)); (focus ((first | exact vwA | exact vwT | exact vwW))))))); (simp only [PV.scal, PV.scalL, if_true, Bool.and_true, Bool.and_false, Bool.false_and, Bool.true_and, frz, List.map_nil, Bool.false_eq_true, if_false, ite_self, bne, h0]); ((with_reducible first | refine finA hC ?_ | refine finD hC ?_); clear hC C)) | ((with_reducible first | refine aops_cons' fun C hC => ?_ | refine aopsD_cons' fun C hC => ?_ | intro C hC); simp only [go_sem, bne, h0]; ((with_reducible first | refine finA hC ?_ | refine finD hC ?_); clear hC C)) | (with_reducible first | refine awp_seq_k fun K hK => ?_ | refine awp_reg_k fun K hK => ?_ | refine awp_dreg_k fun K hK => ?_ | (refine aops_nil ?_; refine hK _ _ ?_; try clear hK K) | (refine aopsD_nil ?_; refine hK _ _ _ ?_ ?_; (focus kernel_rfl); try clear hK K) | (refine thn_normal ?_; refine hK _ _ ?_; try clear hK K) | refine catch_normal ?_ | refine awp_skip_k ?_ | refine awp_ret_k ?_ | refine awp_exit_k ?_ | refine awp_block_k ?_ | (refine thn_exit ?_; try clear hK K) | (refine thn_ret ?_; try clear hK K) | refine catch_ret ?_ | refine catch_exit ?_ | (refine catch_other ?_ ?_; focus decide)) | ((with_reducible first | apply aops_guard' | apply aopsD_guard' | apply awp_cond_g); focus (simp only [go_sem, bne, h0]; exact rfl)) | (with_reducible first | refine gk_tt ?_ | refine gk_ff ?_ | refine ck_t ?_ | refine ck_f ?_) | ((with_reducible first | refine gk_tf ?_ | refine gk_ft ?_ | refine gk_u ?_ | refine gk_u' ?_); first | (intro _ e; (first | rw [put_some] at e | rw [put_none] at e); subst e) | (intro _ _ e e'; (first | rw [put_some] at e | rw [put_none] at e); subst e; subst e'))))
      (refine retP_ret (List.range 40) rfl ?_; (try simp only [encL, List.map_nil, if_true, if_false, Bool.false_eq_true, Bool.not_true, Bool.not_false]); (first | exact vwA | exact vwT | exact vwW))
    | true =>
      have h0' : valR ds cols rows = 0 := by simpa using h0
      obtain ⟨hD, hF, hcs, hrr, _⟩ := valR_spec h0'
      have hm := mis_ok hD hF (fuel cols rows) cols rows hcs hrr (by unfold fuel; omega) hfu
      simp only [h0, if_true] at hr
      rw [hr] at hm
      (repeat' (first | ((first | (with_reducible refine aops_call fun C hC => ?_) | (with_reducible refine aopsD_call fun C hC => ?_) | ((with_reducible intro C hC); (with_reducible refine ax_call_mp ?_))); (first | (simp only [go_sem, bne, h0]; (first | ((with_reducible apply ACall.pure0 [] (hv)); (focus ((first | exact vwA | exact vwT | exact vwW)))) | ((with_reducible apply ACall.pure0 [] (hm)); (focus ((first | exact vwA | exact vwT | exact vwW))))))); (simp only [PV.scal, PV.scalL, if_true, Bool.and_true, Bool.and_false, Bool.false_and, Bool.true_and, frz, List.map_nil, Bool.false_eq_true, if_false, ite_self, bne, h0]); ((with_reducible first | refine finA hC ?_ | refine finD hC ?_); clear hC C)) | ((with_reducible first | refine aops_cons' fun C hC => ?_ | refine aopsD_cons' fun C hC => ?_ | intro C hC); simp only [go_sem, bne, h0]; ((with_reducible first | refine finA hC ?_ | refine finD hC ?_); clear hC C)) | (with_reducible first | refine awp_seq_k fun K hK => ?_ | refine awp_reg_k fun K hK => ?_ | refine awp_dreg_k fun K hK => ?_ | (refine aops_nil ?_; refine hK _ _ ?_; try clear hK K) | (refine aopsD_nil ?_; refine hK _ _ _ ?_ ?_; (focus kernel_rfl); try clear hK K) | (refine thn_normal ?_; refine hK _ _ ?_; try clear hK K) | refine catch_normal ?_ | refine awp_skip_k ?_ | refine awp_ret_k ?_ | refine awp_exit_k ?_ | refine awp_block_k ?_ | (refine thn_exit ?_; try clear hK K) | (refine thn_ret ?_; try clear hK K) | refine catch_ret ?_ | refine catch_exit ?_ | (refine catch_other ?_ ?_; focus decide)) | ((with_reducible first | apply aops_guard' | apply aopsD_guard' | apply awp_cond_g); focus (simp only [go_sem, bne, h0]; exact rfl)) | (with_reducible first | refine gk_tt ?_ | refine gk_ff ?_ | refine ck_t ?_ | refine ck_f ?_) | ((with_reducible first | refine gk_tf ?_ | refine gk_ft ?_ | refine gk_u ?_ | refine gk_u' ?_); first | (intro _ e; (first | rw [put_some] at e | rw [put_none] at e); subst e) | (intro _ _ e e'; (first | rw [put_some] at e | rw [put_none] at e); subst e; subst e'))))
      (refine retP_ret (List.range 40) rfl ?_; (first | exact vwA | exact vwT | exact vwW))
  cases h : missR ds cols rows with
  | none => exact (h ▸ hgen) _ _ rfl
  | some p => exact (h ▸ hgen) _ _ rfl
/-! ### Redundant -/
def redL (f : List (List Ty) → List Ty → Bool) : List (List Ty) → List (List Ty) → List Int
  | _, [] => []
  | pre, row :: rest => if f pre row then redL f (pre ++ [row]) rest else (pre.length : Int) :: redL f (pre ++ [row]) rest
def redR (ds : List Dm) (cols : List Int) (rows : List (List Ty)) : List Int := if valR ds cols rows == 0 then redL (use ds (fuel cols rows) cols) [] rows else []
theorem encLLP_take {rows pre rest : List (List Ty)} (h : pre ++ rest = rows) : (encLLP rows).take pre.length = encLLP pre := by
  subst h; unfold encLLP; rw [List.map_append, List.take_left' (by simp)]
theorem cnR_app (a b : List (List Ty)) : cnR (a ++ b) = cnR a + cnR b := by simp [cnR]
set_option maxHeartbeats 4000000 in
theorem red_ok (ds : List Dm) (cols : List Int) (rows : List (List Ty)) (hsz : ∀ row ∈ rows, ndsL row ≤ 100000000000) (hfu : 5 * cnR rows + cols.length + 1 ≤ 100000000) :
    PCall Try.prog 43 [.list 2 (encDm ds), .list 1 (encI cols), .list 1 (encLLP rows)] (.list 1 (encI (redR ds cols rows))) := by
  have hv := val_ok ds cols rows hsz
  refine PCall.intro' (ps := [.list 1 (encI (redR ds cols rows))]) fn43 (by simp) fun hok => ?_
  have hss : rows.length ≤ 1099511627776 := by
    simp only [PV.okL, PV.ok, encLLP_len, big] at hok; exact hok.2.2.1.1
  clear hok
  unfold redR
  cases h0 : (valR ds cols rows == 0) with
  | false =>
    simp only [Bool.false_eq_true, if_false]
    unfold ac43
    simp only [argFr]
    (repeat' (first | ((first | (with_reducible refine aops_call fun C hC => ?_) | (with_reducible refine aopsD_call fun C hC => ?_) | ((with_reducible intro C hC); (with_reducible refine ax_call_mp ?_))); (first | (simp only [go_sem, bne, h0]; (first | ((with_reducible apply ACall.pure0 [] (hv)); (focus ((first | exact vwA | exact vwT | exact vwW))))))); (simp only [PV.scal, PV.scalL, if_true, Bool.and_true, Bool.and_false, Bool.false_and, Bool.true_and, frz, List.map_nil, Bool.false_eq_true, if_false, ite_self, bne, h0]); ((with_reducible first | refine finA hC ?_ | refine finD hC ?_); clear hC C)) | ((with_reducible first | refine aops_cons' fun C hC => ?_ | refine aopsD_cons' fun C hC => ?_ | intro C hC); simp only [go_sem, bne, h0]; ((with_reducible first | refine finA hC ?_ | refine finD hC ?_); clear hC C)) | (with_reducible first | refine awp_seq_k fun K hK => ?_ | refine awp_reg_k fun K hK => ?_ | refine awp_dreg_k fun K hK => ?_ | (refine aops_nil ?_; refine hK _ _ ?_; try clear hK K) | (refine aopsD_nil ?_; refine hK _ _ _ ?_ ?_; (focus kernel_rfl); try clear hK K) | (refine thn_normal ?_; refine hK _ _ ?_; try clear hK K) | refine catch_normal ?_ | refine awp_skip_k ?_ | refine awp_ret_k ?_ | refine awp_exit_k ?_ | refine awp_block_k ?_ | (refine thn_exit ?_; try clear hK K) | (refine thn_ret ?_; try clear hK K) | refine catch_ret ?_ | refine catch_exit ?_ | (refine catch_other ?_ ?_; focus decide)) | ((with_reducible first | apply aops_guard' | apply aopsD_guard' | apply awp_cond_g); focus (simp only [go_sem, bne, h0]; exact rfl)) | (with_reducible first | refine gk_tt ?_ | refine gk_ff ?_ | refine ck_t ?_ | refine ck_f ?_) | ((with_reducible first | refine gk_tf ?_ | refine gk_ft ?_ | refine gk_u ?_ | refine gk_u' ?_); first | (intro _ e; (first | rw [put_some] at e | rw [put_none] at e); subst e) | (intro _ _ e e'; (first | rw [put_some] at e | rw [put_none] at e); subst e; subst e'))))
    (refine retP_ret (List.range 40) rfl ?_; (try simp only [encI, List.map_nil, if_true, if_false, Bool.false_eq_true, Bool.not_true, Bool.not_false]); (first | exact vwA | exact vwT | exact vwW))
  | true =>
    have h0' : valR ds cols rows = 0 := by simpa using h0
    obtain ⟨hD, hF, hcs, hrr, _⟩ := valR_spec h0'
    have hm := fun (pre : List (List Ty)) (row : List Ty) (rest : List (List Ty)) (e : pre ++ row :: rest = rows) =>
      use_ok hD hF (fuel cols rows) cols pre row hcs (fun r hr => hrr r (by rw [← e]; simp [hr])) (hrr row (by rw [← e]; simp)) (by unfold fuel; rw [← e, cnR_app, cnR_cons]; omega) hfu
    simp only [if_true]
    generalize hR : redL (use ds (fuel cols rows) cols) [] rows = R
    unfold ac43
    simp only [argFr]
    (repeat' (first | ((first | (with_reducible refine aops_call fun C hC => ?_) | (with_reducible refine aopsD_call fun C hC => ?_) | ((with_reducible intro C hC); (with_reducible refine ax_call_mp ?_))); (first | (simp only [go_sem, bne, h0, encLLP_len]; (first | ((with_reducible apply ACall.pure0 [] (hv)); (focus ((first | exact vwA | exact vwT | exact vwW))))))); (simp only [PV.scal, PV.scalL, if_true, Bool.and_true, Bool.and_false, Bool.false_and, Bool.true_and, frz, List.map_nil, Bool.false_eq_true, if_false, ite_self, bne, h0, encLLP_len]); ((with_reducible first | refine finA hC ?_ | refine finD hC ?_); clear hC C)) | ((with_reducible first | refine aops_cons' fun C hC => ?_ | refine aopsD_cons' fun C hC => ?_ | intro C hC); simp only [go_sem, bne, h0, encLLP_len]; ((with_reducible first | refine finA hC ?_ | refine finD hC ?_); clear hC C)) | (with_reducible first | refine awp_seq_k fun K hK => ?_ | refine awp_reg_k fun K hK => ?_ | refine awp_dreg_k fun K hK => ?_ | (refine aops_nil ?_; refine hK _ _ ?_; try clear hK K) | (refine aopsD_nil ?_; refine hK _ _ _ ?_ ?_; (focus kernel_rfl); try clear hK K) | (refine thn_normal ?_; refine hK _ _ ?_; try clear hK K) | refine catch_normal ?_ | refine awp_skip_k ?_ | refine awp_ret_k ?_ | refine awp_exit_k ?_ | refine awp_block_k ?_ | (refine thn_exit ?_; try clear hK K) | (refine thn_ret ?_; try clear hK K) | refine catch_ret ?_ | refine catch_exit ?_ | (refine catch_other ?_ ?_; focus decide)) | ((with_reducible first | apply aops_guard' | apply aopsD_guard' | apply awp_cond_g); focus (simp only [go_sem, bne, h0, encLLP_len]; exact rfl)) | (with_reducible first | refine gk_tt ?_ | refine gk_ff ?_ | refine ck_t ?_ | refine ck_f ?_) | ((with_reducible first | refine gk_tf ?_ | refine gk_ft ?_ | refine gk_u ?_ | refine gk_u' ?_); first | (intro _ e; (first | rw [put_some] at e | rw [put_none] at e); subst e) | (intro _ _ e e'; (first | rw [put_some] at e | rw [put_none] at e); subst e; subst e'))))
    have more : ∀ (rest pre : List (List Ty)) (is : List Int), pre ++ rest = rows → is.length ≤ pre.length → R = is ++ redL (use ds (fuel cols rows) cols) pre rest → loopN (awp Try.prog ac43_l0) (catch_ 0 (thn K (retP [RV.tmp 6] [.list 1 (encI R)]))) (rest.length + 1)
       [(20, .pv (ii pre.length)), (19, .pv (ii rows.length)), (18, .pv (.list 1 (encLLP rows))), (8, .row 1 is.length false), (7, .ptr 0 0 0), (2, .pv (.list 1 (encLLP rows))), (1, .pv (.list 1 (encI cols)))]
       [some ⟨false, 138, 1, [[.pv (.list 2 (encDm ds))]], none⟩, some ⟨false, 3, 1, is.map cI, none⟩] := by
      intro rest
      induction rest with
      | nil =>
        intro pre is hpre hil hi
        have hpre : pre = rows := by simpa using hpre
        rw [← hpre]
        simp only [redL, List.append_nil] at hi
        subst hi
        refine loopN_k fun K1 hK1 => ?_
        unfold ac43_l0
        (repeat' (first | ((with_reducible first | refine aops_cons' fun C hC => ?_ | refine aopsD_cons' fun C hC => ?_ | intro C hC); simp only [go_sem, lt_end]; ((with_reducible first | refine finA hC ?_ | refine finD hC ?_); clear hC C)) | (with_reducible first | refine awp_seq_k fun K hK => ?_ | refine awp_reg_k fun K hK => ?_ | refine awp_dreg_k fun K hK => ?_ | (refine aops_nil ?_; refine hK _ _ ?_; try clear hK K) | (refine aopsD_nil ?_; refine hK _ _ _ ?_ ?_; (focus kernel_rfl); try clear hK K) | (refine thn_normal ?_; refine hK _ _ ?_; try clear hK K) | refine catch_normal ?_ | refine awp_skip_k ?_ | refine awp_ret_k ?_ | refine awp_exit_k ?_ | refine awp_block_k ?_ | (refine thn_exit ?_; try clear hK K) | (refine thn_ret ?_; try clear hK K) | refine catch_ret ?_ | refine catch_exit ?_ | (refine catch_other ?_ ?_; focus decide)) | ((with_reducible first | apply aops_guard' | apply aopsD_guard' | apply awp_cond_g); focus (simp only [go_sem, lt_end]; exact rfl)) | (with_reducible first | refine gk_tt ?_ | refine gk_ff ?_ | refine ck_t ?_ | refine ck_f ?_) | ((with_reducible first | refine gk_tf ?_ | refine gk_ft ?_ | refine gk_u ?_ | refine gk_u' ?_); first | (intro _ e; (first | rw [put_some] at e | rw [put_none] at e); subst e) | (intro _ _ e e'; (first | rw [put_some] at e | rw [put_none] at e); subst e; subst e'))))
        refine retP_ret (List.range 40) rfl ?_
        exact .cons _ _ _ _ (row_ofI (by decide) rfl rfl) .nil
      | cons row rest ih =>
        intro pre is hpre hil hi
        have hlt : decide ((pre.length : Int) < (rows.length : Int)) = true := by rw [← hpre]; exact lt_app _ _ _
        have hat : (encLLP rows)[pre.length]? = some (.list 3 (encL row)) := by rw [← hpre]; exact encLLP_at _ _ _
        have hw := wrapS (n := pre.length) (by have := congrArg List.length hpre; simp at this; omega)
        have htk := encLLP_take hpre
        have hle : pre.length ≤ rows.length := by rw [← hpre]; simp
        have hub : is.length + 1 ≤ big := by have := congrArg List.length hpre; simp at this; unfold big; omega
        have hu := hm pre row rest hpre
        simp only [redL] at hi
        refine loopN_k fun K1 hK1 => ?_
        unfold ac43_l0
        cases hg : use ds (fuel cols rows) cols pre row with
        | true =>
          rw [hg] at hu hi
          rw [if_pos rfl] at hi
          (repeat' (first | ((first | (with_reducible refine aops_call fun C hC => ?_) | (with_reducible refine aopsD_call fun C hC => ?_) | ((with_reducible intro C hC); (with_reducible refine ax_call_mp ?_))); (first | (simp only [go_sem, hlt, hat, encLLP_len, Nat.zero_le, Nat.le_refl, hle, htk]; (first | ((with_reducible apply ACall.pure0 [] (hu)); (focus ((first | exact vwA | exact vwT | exact vwW))))))); (simp only [PV.scal, PV.scalL, if_true, Bool.and_true, Bool.and_false, Bool.false_and, Bool.true_and, frz, List.map_nil, Bool.false_eq_true, if_false, ite_self, hlt, hat, encLLP_len, Nat.zero_le, Nat.le_refl, hle, htk]); ((with_reducible first | refine finA hC ?_ | refine finD hC ?_); clear hC C)) | ((with_reducible first | refine aops_cons' fun C hC => ?_ | refine aopsD_cons' fun C hC => ?_ | intro C hC); simp only [go_sem, hlt, hat, encLLP_len, Nat.zero_le, Nat.le_refl, hle, htk]; ((with_reducible first | refine finA hC ?_ | refine finD hC ?_); clear hC C)) | (with_reducible first | refine awp_seq_k fun K hK => ?_ | refine awp_reg_k fun K hK => ?_ | refine awp_dreg_k fun K hK => ?_ | (refine aops_nil ?_; refine hK _ _ ?_; try clear hK K) | (refine aopsD_nil ?_; refine hK _ _ _ ?_ ?_; (focus kernel_rfl); try clear hK K) | (refine thn_normal ?_; refine hK _ _ ?_; try clear hK K) | refine catch_normal ?_ | refine awp_skip_k ?_ | refine awp_ret_k ?_ | refine awp_exit_k ?_ | refine awp_block_k ?_ | (refine thn_exit ?_; try clear hK K) | (refine thn_ret ?_; try clear hK K) | refine catch_ret ?_ | refine catch_exit ?_ | (refine catch_other ?_ ?_; focus decide)) | ((with_reducible first | apply aops_guard' | apply aopsD_guard' | apply awp_cond_g); focus (simp only [go_sem, hlt, hat, encLLP_len, Nat.zero_le, Nat.le_refl, hle, htk]; exact rfl)) | (with_reducible first | refine gk_tt ?_ | refine gk_ff ?_ | refine ck_t ?_ | refine ck_f ?_) | ((with_reducible first | refine gk_tf ?_ | refine gk_ft ?_ | refine gk_u ?_ | refine gk_u' ?_); first | (intro _ e; (first | rw [put_some] at e | rw [put_none] at e); subst e) | (intro _ _ e e'; (first | rw [put_some] at e | rw [put_none] at e); subst e; subst e'))))
          refine thn_normal ?_
          refine hK1 _ _ _ _ _ (LeB [0, 1] (by refine ⟨?_, ?_, ?_⟩ <;> simp only [leFr, leFb, leHp, V.ren, V.renL, V.bd, V.bdL, allL, lt, Go.Ab.get, hget, List.map_cons, List.map_nil, List.length_cons, List.length_nil, List.length_append, List.getElem?_cons_zero, List.getElem?_cons_succ, List.getElem?_nil, Option.join_some, Option.join_none, List.getD_cons_zero, List.getD_cons_succ, List.getD_nil, Nat.reduceAdd, Nat.reduceLT, Nat.reduceEqDiff, Nat.zero_add, reduceIte, if_true, if_false, and_true, true_and, renL_vcells, allL_vcells, renL_pv, leBlk_some, eq_self, true_or, or_true, reduceCtorEq, false_or, hw, List.length_append, allL_cI, renL_cI])) (ih (pre ++ [row]) is (by simp [hpre]) (by simp; omega) hi)
        | false =>
          rw [hg] at hu hi
          rw [if_neg (by decide)] at hi
          (repeat' (first | ((first | (with_reducible refine aops_call fun C hC => ?_) | (with_reducible refine aopsD_call fun C hC => ?_) | ((with_reducible intro C hC); (with_reducible refine ax_call_mp ?_))); (first | (simp only [go_sem, hlt, hat, encLLP_len, Nat.zero_le, Nat.le_refl, hle, htk, hub, List.length_map]; (first | ((with_reducible apply ACall.pure0 [] (hu)); (focus ((first | exact vwA | exact vwT | exact vwW))))))); (simp only [PV.scal, PV.scalL, if_true, Bool.and_true, Bool.and_false, Bool.false_and, Bool.true_and, frz, List.map_nil, Bool.false_eq_true, if_false, ite_self, hlt, hat, encLLP_len, Nat.zero_le, Nat.le_refl, hle, htk, hub, List.length_map]); ((with_reducible first | refine finA hC ?_ | refine finD hC ?_); clear hC C)) | ((with_reducible first | refine aops_cons' fun C hC => ?_ | refine aopsD_cons' fun C hC => ?_ | intro C hC); simp only [go_sem, hlt, hat, encLLP_len, Nat.zero_le, Nat.le_refl, hle, htk, hub, List.length_map]; ((with_reducible first | refine finA hC ?_ | refine finD hC ?_); clear hC C)) | (with_reducible first | refine awp_seq_k fun K hK => ?_ | refine awp_reg_k fun K hK => ?_ | refine awp_dreg_k fun K hK => ?_ | (refine aops_nil ?_; refine hK _ _ ?_; try clear hK K) | (refine aopsD_nil ?_; refine hK _ _ _ ?_ ?_; (focus kernel_rfl); try clear hK K) | (refine thn_normal ?_; refine hK _ _ ?_; try clear hK K) | refine catch_normal ?_ | refine awp_skip_k ?_ | refine awp_ret_k ?_ | refine awp_exit_k ?_ | refine awp_block_k ?_ | (refine thn_exit ?_; try clear hK K) | (refine thn_ret ?_; try clear hK K) | refine catch_ret ?_ | refine catch_exit ?_ | (refine catch_other ?_ ?_; focus decide)) | ((with_reducible first | apply aops_guard' | apply aopsD_guard' | apply awp_cond_g); focus (simp only [go_sem, hlt, hat, encLLP_len, Nat.zero_le, Nat.le_refl, hle, htk, hub, List.length_map]; exact rfl)) | (with_reducible first | refine gk_tt ?_ | refine gk_ff ?_ | refine ck_t ?_ | refine ck_f ?_) | ((with_reducible first | refine gk_tf ?_ | refine gk_ft ?_ | refine gk_u ?_ | refine gk_u' ?_); first | (intro _ e; (first | rw [put_some] at e | rw [put_none] at e); subst e) | (intro _ _ e e'; (first | rw [put_some] at e | rw [put_none] at e); subst e; subst e'))))
          refine thn_normal ?_
          refine hK1 _ _ _ _ _ (LeB [0, 3] (by refine ⟨?_, ?_, ?_⟩ <;> simp only [leFr, leFb, leHp, V.ren, V.renL, V.bd, V.bdL, allL, lt, Go.Ab.get, hget, List.map_cons, List.map_nil, List.length_cons, List.length_nil, List.length_append, List.getElem?_cons_zero, List.getElem?_cons_succ, List.getElem?_nil, Option.join_some, Option.join_none, List.getD_cons_zero, List.getD_cons_succ, List.getD_nil, Nat.reduceAdd, Nat.reduceLT, Nat.reduceEqDiff, Nat.zero_add, reduceIte, if_true, if_false, and_true, true_and, renL_vcells, allL_vcells, renL_pv, leBlk_some, eq_self, true_or, or_true, reduceCtorEq, false_or, hw, List.length_append, allL_cI, renL_cI, allL_app, List.map_append, List.map_cons, List.map_nil, cI, allL])) (ih (pre ++ [row]) (is ++ [(pre.length : Int)]) (by simp [hpre]) (by simp; omega) (by simpa using hi))
    have none_ : ∀ (rest pre : List (List Ty)), pre ++ rest = rows → R = redL (use ds (fuel cols rows) cols) pre rest → loopN (awp Try.prog ac43_l0) (catch_ 0 (thn K (retP [RV.tmp 6] [.list 1 (encI R)]))) (rest.length + 1)
       [(20, .pv (ii pre.length)), (19, .pv (ii rows.length)), (18, .pv (.list 1 (encLLP rows))), (8, .pv (.lit (.slice none 0 0))), (7, .ptr 0 0 0), (2, .pv (.list 1 (encLLP rows))), (1, .pv (.list 1 (encI cols)))]
       [some ⟨false, 138, 1, [[.pv (.list 2 (encDm ds))]], none⟩] := by
      intro rest
      induction rest with
      | nil =>
        intro pre hpre hi
        have hpre : pre = rows := by simpa using hpre
        rw [← hpre]
        simp only [redL] at hi
        subst hi
        refine loopN_k fun K1 hK1 => ?_
        unfold ac43_l0
        (repeat' (first | ((with_reducible first | refine aops_cons' fun C hC => ?_ | refine aopsD_cons' fun C hC => ?_ | intro C hC); simp only [go_sem, lt_end]; ((with_reducible first | refine finA hC ?_ | refine finD hC ?_); clear hC C)) | (with_reducible first | refine awp_seq_k fun K hK => ?_ | refine awp_reg_k fun K hK => ?_ | refine awp_dreg_k fun K hK => ?_ | (refine aops_nil ?_; refine hK _ _ ?_; try clear hK K) | (refine aopsD_nil ?_; refine hK _ _ _ ?_ ?_; (focus kernel_rfl); try clear hK K) | (refine thn_normal ?_; refine hK _ _ ?_; try clear hK K) | refine catch_normal ?_ | refine awp_skip_k ?_ | refine awp_ret_k ?_ | refine awp_exit_k ?_ | refine awp_block_k ?_ | (refine thn_exit ?_; try clear hK K) | (refine thn_ret ?_; try clear hK K) | refine catch_ret ?_ | refine catch_exit ?_ | (refine catch_other ?_ ?_; focus decide)) | ((with_reducible first | apply aops_guard' | apply aopsD_guard' | apply awp_cond_g); focus (simp only [go_sem, lt_end]; exact rfl)) | (with_reducible first | refine gk_tt ?_ | refine gk_ff ?_ | refine ck_t ?_ | refine ck_f ?_) | ((with_reducible first | refine gk_tf ?_ | refine gk_ft ?_ | refine gk_u ?_ | refine gk_u' ?_); first | (intro _ e; (first | rw [put_some] at e | rw [put_none] at e); subst e) | (intro _ _ e e'; (first | rw [put_some] at e | rw [put_none] at e); subst e; subst e'))))
        (refine retP_ret (List.range 40) rfl ?_; (try simp only [encI, List.map_nil, if_true, if_false, Bool.false_eq_true, Bool.not_true, Bool.not_false]); (first | exact vwA | exact vwT | exact vwW))
      | cons row rest ih =>
        intro pre hpre hi
        have hlt : decide ((pre.length : Int) < (rows.length : Int)) = true := by rw [← hpre]; exact lt_app _ _ _
        have hat : (encLLP rows)[pre.length]? = some (.list 3 (encL row)) := by rw [← hpre]; exact encLLP_at _ _ _
        have hw := wrapS (n := pre.length) (by have := congrArg List.length hpre; simp at this; omega)
        have htk := encLLP_take hpre
        have hle : pre.length ≤ rows.length := by rw [← hpre]; simp
        have hu := hm pre row rest hpre
        simp only [redL] at hi
        refine loopN_k fun K1 hK1 => ?_
        unfold ac43_l0
        cases hg : use ds (fuel cols rows) cols pre row with
        | true =>
          rw [hg] at hu hi
          rw [if_pos rfl] at hi
          (repeat' (first | ((first | (with_reducible refine aops_call fun C hC => ?_) | (with_reducible refine aopsD_call fun C hC => ?_) | ((with_reducible intro C hC); (with_reducible refine ax_call_mp ?_))); (first | (simp only [go_sem, hlt, hat, encLLP_len, Nat.zero_le, Nat.le_refl, hle, htk]; (first | ((with_reducible apply ACall.pure0 [] (hu)); (focus ((first | exact vwA | exact vwT | exact vwW))))))); (simp only [PV.scal, PV.scalL, if_true, Bool.and_true, Bool.and_false, Bool.false_and, Bool.true_and, frz, List.map_nil, Bool.false_eq_true, if_false, ite_self, hlt, hat, encLLP_len, Nat.zero_le, Nat.le_refl, hle, htk]); ((with_reducible first | refine finA hC ?_ | refine finD hC ?_); clear hC C)) | ((with_reducible first | refine aops_cons' fun C hC => ?_ | refine aopsD_cons' fun C hC => ?_ | intro C hC); simp only [go_sem, hlt, hat, encLLP_len, Nat.zero_le, Nat.le_refl, hle, htk]; ((with_reducible first | refine finA hC ?_ | refine finD hC ?_); clear hC C)) | (with_reducible first | refine awp_seq_k fun K hK => ?_ | refine awp_reg_k fun K hK => ?_ | refine awp_dreg_k fun K hK => ?_ | (refine aops_nil ?_; refine hK _ _ ?_; try clear hK K) | (refine aopsD_nil ?_; refine hK _ _ _ ?_ ?_; (focus kernel_rfl); try clear hK K) | (refine thn_normal ?_; refine hK _ _ ?_; try clear hK K) | refine catch_normal ?_ | refine awp_skip_k ?_ | refine awp_ret_k ?_ | refine awp_exit_k ?_ | refine awp_block_k ?_ | (refine thn_exit ?_; try clear hK K) | (refine thn_ret ?_; try clear hK K) | refine catch_ret ?_ | refine catch_exit ?_ | (refine catch_other ?_ ?_; focus decide)) | ((with_reducible first | apply aops_guard' | apply aopsD_guard' | apply awp_cond_g); focus (simp only [go_sem, hlt, hat, encLLP_len, Nat.zero_le, Nat.le_refl, hle, htk]; exact rfl)) | (with_reducible first | refine gk_tt ?_ | refine gk_ff ?_ | refine ck_t ?_ | refine ck_f ?_) | ((with_reducible first | refine gk_tf ?_ | refine gk_ft ?_ | refine gk_u ?_ | refine gk_u' ?_); first | (intro _ e; (first | rw [put_some] at e | rw [put_none] at e); subst e) | (intro _ _ e e'; (first | rw [put_some] at e | rw [put_none] at e); subst e; subst e'))))
          refine thn_normal ?_
          refine hK1 _ _ _ _ _ (LeB [0] (by refine ⟨?_, ?_, ?_⟩ <;> simp only [leFr, leFb, leHp, V.ren, V.renL, V.bd, V.bdL, allL, lt, Go.Ab.get, hget, List.map_cons, List.map_nil, List.length_cons, List.length_nil, List.length_append, List.getElem?_cons_zero, List.getElem?_cons_succ, List.getElem?_nil, Option.join_some, Option.join_none, List.getD_cons_zero, List.getD_cons_succ, List.getD_nil, Nat.reduceAdd, Nat.reduceLT, Nat.reduceEqDiff, Nat.zero_add, reduceIte, if_true, if_false, and_true, true_and, renL_vcells, allL_vcells, renL_pv, leBlk_some, eq_self, true_or, or_true, reduceCtorEq, false_or, hw, List.length_append])) (ih (pre ++ [row]) (by simp [hpre]) hi)
        | false =>
          rw [hg] at hu hi
          rw [if_neg (by decide)] at hi
          (repeat' (first | ((first | (with_reducible refine aops_call fun C hC => ?_) | (with_reducible refine aopsD_call fun C hC => ?_) | ((with_reducible intro C hC); (with_reducible refine ax_call_mp ?_))); (first | (simp only [go_sem, hlt, hat, encLLP_len, Nat.zero_le, Nat.le_refl, hle, htk]; (first | ((with_reducible apply ACall.pure0 [] (hu)); (focus ((first | exact vwA | exact vwT | exact vwW))))))); (simp only [PV.scal, PV.scalL, if_true, Bool.and_true, Bool.and_false, Bool.false_and, Bool.true_and, frz, List.map_nil, Bool.false_eq_true, if_false, ite_self, hlt, hat, encLLP_len, Nat.zero_le, Nat.le_refl, hle, htk]); ((with_reducible first | refine finA hC ?_ | refine finD hC ?_); clear hC C)) | ((with_reducible first | refine aops_cons' fun C hC => ?_ | refine aopsD_cons' fun C hC => ?_ | intro C hC); simp only [go_sem, hlt, hat, encLLP_len, Nat.zero_le, Nat.le_refl, hle, htk]; ((with_reducible first | refine finA hC ?_ | refine finD hC ?_); clear hC C)) | (with_reducible first | refine awp_seq_k fun K hK => ?_ | refine awp_reg_k fun K hK => ?_ | refine awp_dreg_k fun K hK => ?_ | (refine aops_nil ?_; refine hK _ _ ?_; try clear hK K) | (refine aopsD_nil ?_; refine hK _ _ _ ?_ ?_; (focus kernel_rfl); try clear hK K) | (refine thn_normal ?_; refine hK _ _ ?_; try clear hK K) | refine catch_normal ?_ | refine awp_skip_k ?_ | refine awp_ret_k ?_ | refine awp_exit_k ?_ | refine awp_block_k ?_ | (refine thn_exit ?_; try clear hK K) | (refine thn_ret ?_; try clear hK K) | refine catch_ret ?_ | refine catch_exit ?_ | (refine catch_other ?_ ?_; focus decide)) | ((with_reducible first | apply aops_guard' | apply aopsD_guard' | apply awp_cond_g); focus (simp only [go_sem, hlt, hat, encLLP_len, Nat.zero_le, Nat.le_refl, hle, htk]; exact rfl)) | (with_reducible first | refine gk_tt ?_ | refine gk_ff ?_ | refine ck_t ?_ | refine ck_f ?_) | ((with_reducible first | refine gk_tf ?_ | refine gk_ft ?_ | refine gk_u ?_ | refine gk_u' ?_); first | (intro _ e; (first | rw [put_some] at e | rw [put_none] at e); subst e) | (intro _ _ e e'; (first | rw [put_some] at e | rw [put_none] at e); subst e; subst e'))))
          refine thn_normal ?_
          refine hK1 _ _ _ _ _ (LeB [0, 2] (by refine ⟨?_, ?_, ?_⟩ <;> simp only [leFr, leFb, leHp, V.ren, V.renL, V.bd, V.bdL, allL, lt, Go.Ab.get, hget, List.map_cons, List.map_nil, List.length_cons, List.length_nil, List.length_append, List.getElem?_cons_zero, List.getElem?_cons_succ, List.getElem?_nil, Option.join_some, Option.join_none, List.getD_cons_zero, List.getD_cons_succ, List.getD_nil, Nat.reduceAdd, Nat.reduceLT, Nat.reduceEqDiff, Nat.zero_add, reduceIte, if_true, if_false, and_true, true_and, renL_vcells, allL_vcells, renL_pv, leBlk_some, eq_self, true_or, or_true, reduceCtorEq, false_or, hw, List.length_append, allL_app, List.map_cons, List.map_nil, cI, allL])) (more rest (pre ++ [row]) [(pre.length : Int)] (by simp [hpre]) (by simp) (by simpa using hi))
    refine awp_loop_k _ (LeB [0] (by refine ⟨?_, ?_, ?_⟩ <;> simp only [leFr, leFb, leHp, V.ren, V.renL, V.bd, V.bdL, allL, lt, Go.Ab.get, hget, List.map_cons, List.map_nil, List.length_cons, List.length_nil, List.length_append, List.getElem?_cons_zero, List.getElem?_cons_succ, List.getElem?_nil, Option.join_some, Option.join_none, List.getD_cons_zero, List.getD_cons_succ, List.getD_nil, Nat.reduceAdd, Nat.reduceLT, Nat.reduceEqDiff, Nat.zero_add, reduceIte, if_true, if_false, and_true, true_and, renL_vcells, allL_vcells, renL_pv, leBlk_some, eq_self, true_or, or_true, reduceCtorEq, false_or, c0])) (none_ rows [] rfl hR.symm)
end Go.Proofs.Ytbdoblgofddhdaa
