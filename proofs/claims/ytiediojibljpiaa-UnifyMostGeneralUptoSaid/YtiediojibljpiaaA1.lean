/- A1: joined from S0 S1 S2a S2 S4. -/
import Derived.Test.YtiediojibljpiaaFnU
import Derived.Test.YtiediojibljpiaaK3
/- The tree of a type, and how it stands as a value. -/
set_option linter.unusedSimpArgs false
namespace Go.Proofs.Ytiediojibljpiaa
open Go Go.Ab
inductive Ty where
  | mk (k id : Int) (args : List Ty)
abbrev ii (n : Int) : PV := .lit (.int .i64 n)
abbrev bb (n : Bool) : PV := .lit (.bool n)
mutual
def Ty.enc : Ty → PV
  | .mk k id ss => .agg [ii k, ii id, .list 3 (encL ss)]
def encL : List Ty → List PV
  | [] => []
  | t :: ts => t.enc :: encL ts
end
theorem encL_map (ts : List Ty) : encL ts = ts.map Ty.enc := by induction ts with
  | nil => rfl
  | cons t ts ih => simp [encL, ih]
theorem encL_app (ts us : List Ty) : encL (ts ++ us) = encL ts ++ encL us := by simp [encL_map]
theorem encL_len (ts : List Ty) : (encL ts).length = ts.length := by simp [encL_map]
theorem encL_at (ts us : List Ty) (t : Ty) : (encL (ts ++ t :: us))[ts.length]? = some t.enc := by simp [encL_map]
def Ty.kd : Ty → Int | .mk k _ _ => k
def Ty.id : Ty → Int | .mk _ i _ => i
def Ty.args : Ty → List Ty | .mk _ _ a => a
def Ty.tc (t : Ty) : List V := [.pv (ii t.kd), .pv (ii t.id), .pv (.list 3 (encL t.args))]
theorem enc_eq (t : Ty) : t.enc = .agg [ii t.kd, ii t.id, .list 3 (encL t.args)] := by cases t; rfl
theorem cells_enc (t : Ty) : (V.pv t.enc).cells? = some t.tc := by cases t; rfl
theorem pcells_enc (t : Ty) : t.enc.cells = [ii t.kd, ii t.id, .list 3 (encL t.args)] := by cases t; rfl
theorem Vw_tc {h : HF} {B : List Nat} (t : Ty) : VwL h B t.tc [ii t.kd, ii t.id, .list 3 (encL t.args)] := .cons _ _ _ _ (.pv _) (.cons _ _ _ _ (.pv _) (.cons _ _ _ _ (.pv _) .nil))
theorem Vw_enc {h : HF} {B : List Nat} (t : Ty) : Vw h B (.agg [.pv (ii t.kd), .pv (ii t.id), .pv (.list 3 (encL t.args))]) t.enc := by rw [enc_eq]; exact .agg _ _ (Vw_tc t)
theorem Vw_penc {h : HF} {B : List Nat} (t : Ty) : Vw h B (.pv (.agg [ii t.kd, ii t.id, .list 3 (encL t.args)])) t.enc := by rw [enc_eq]; exact .pv _
theorem tc_len (t : Ty) : t.tc.length = 3 := rfl
theorem VwE_tc {h : HF} {B : List Nat} : ∀ (ts : List Ty), VwE h B 3 (ts.map Ty.tc) (encL ts)
  | [] => .nil _
  | t :: ts => .cons _ _ _ _ _ (by rw [pcells_enc]; rfl) (by rw [pcells_enc]; exact Vw_tc t) (VwE_tc ts)
theorem renL_tc1 {ρ : Nat → Nat} (t : Ty) : V.renL ρ t.tc = t.tc := rfl
theorem bdL_tc {S : Nat → Prop} (t : Ty) : V.bdL S t.tc = True := by simp [Ty.tc, V.bdL, V.bd]
theorem renL_tc {ρ : Nat → Nat} (ts : List Ty) : (ts.map Ty.tc).map (V.renL ρ) = ts.map Ty.tc := by
  rw [List.map_map]; exact List.map_congr_left fun p _ => rfl
theorem allL_tc {S : Nat → Prop} (ts : List Ty) : allL S (ts.map Ty.tc) = True := by
  simp only [allL_iff, eq_iff_iff, iff_true]
  intro cs hcs
  obtain ⟨p, _, rfl⟩ := List.mem_map.1 hcs
  simp [Ty.tc, V.bdL, V.bd]
end Go.Proofs.Ytiediojibljpiaa
/- types.Map -/
set_option maxRecDepth 10000
set_option linter.unusedSimpArgs false
set_option linter.unusedVariables false
namespace Go.Proofs.Ytiediojibljpiaa
open Go Go.Ab
mutual
def mapT (g : Ty → Ty × Bool) : Ty → Ty
  | .mk k id ss => if (g (.mk k id ss)).2 then (g (.mk k id ss)).1 else .mk k id (mapTL g ss)
def mapTL (g : Ty → Ty × Bool) : List Ty → List Ty
  | [] => []
  | t :: ts => mapT g t :: mapTL g ts
end
theorem mapTL_map (g : Ty → Ty × Bool) (ts : List Ty) : mapTL g ts = ts.map (mapT g) := by induction ts with
  | nil => rfl
  | cons t ts ih => simp [mapTL, ih]
theorem mapTL_app (g : Ty → Ty × Bool) (ts us : List Ty) : mapTL g (ts ++ us) = mapTL g ts ++ mapTL g us := by simp [mapTL_map]
theorem mapTL_len (g : Ty → Ty × Bool) (ts : List Ty) : (mapTL g ts).length = ts.length := by simp [mapTL_map]
set_option maxHeartbeats 1000000 in
theorem map_ok (fid : FuncId) (caps : List PV) (g : Ty → Ty × Bool) (hg : ∀ t, PCall Try.prog fid ([Ty.enc t] ++ caps) (.tup [(g t).1.enc, .lit (.bool (g t).2)])) : ∀ (t : Ty),
    PCall Try.prog 51 [t.enc, .fn fid caps] (mapT g t).enc
  | .mk k id ss => by
    have hrec : ∀ t ∈ ss, PCall Try.prog 51 [t.enc, .fn fid caps] (mapT g t).enc := fun t ht => map_ok fid caps g hg t
    refine PCall.intro' (ps := [(mapT g (.mk k id ss)).enc]) fn51 (by simp) fun hok => ?_
    have hss : ss.length ≤ 1099511627776 := by
      simp only [PV.okL, Ty.enc, PV.ok, encL_len, big] at hok; exact hok.1.2.2.1.1
    clear hok
    have h0 := hg (.mk k id ss)
    unfold ac51
    simp only [argFr, Ty.enc, Nat.zero_add] at h0 ⊢
    (repeat' (first | ((with_reducible first | refine aops_cons' fun C hC => ?_ | refine aopsD_cons' fun C hC => ?_ | intro C hC); simp only [go_sem]; ((with_reducible first | refine finA hC ?_ | refine finD hC ?_); clear hC C)) | (with_reducible first | refine awp_seq_k fun K hK => ?_ | refine awp_reg_k fun K hK => ?_ | refine awp_dreg_k fun K hK => ?_ | (refine aops_nil ?_; refine hK _ _ ?_; try clear hK K) | (refine aopsD_nil ?_; refine hK _ _ _ ?_ ?_; (focus kernel_rfl); try clear hK K) | (refine thn_normal ?_; refine hK _ _ ?_; try clear hK K) | refine catch_normal ?_ | refine awp_skip_k ?_ | refine awp_ret_k ?_ | refine awp_exit_k ?_ | refine awp_block_k ?_ | (refine thn_exit ?_; try clear hK K) | (refine thn_ret ?_; try clear hK K) | refine catch_ret ?_ | refine catch_exit ?_ | (refine catch_other ?_ ?_; focus decide)) | ((with_reducible first | apply aops_guard' | apply aopsD_guard' | apply awp_cond_g); focus (simp only [go_sem]; exact rfl)) | (with_reducible first | refine gk_tt ?_ | refine gk_ff ?_ | refine ck_t ?_ | refine ck_f ?_) | ((with_reducible first | refine gk_tf ?_ | refine gk_ft ?_ | refine gk_u ?_ | refine gk_u' ?_); first | (intro _ e; (first | rw [put_some] at e | rw [put_none] at e); subst e) | (intro _ _ e e'; (first | rw [put_some] at e | rw [put_none] at e); subst e; subst e'))))
    refine aops_cons rfl fun C hC => ?_
    simp only [go_sem]
    refine ACall.pure [] (.pv _) ?_ h0 ?_
    · exact vwA
    simp only [PV.scal, PV.scalL, if_true, Bool.and_true, enc_eq, Bool.and_false, Bool.false_and, frz, List.map_nil, Bool.false_eq_true, if_false]
    (with_reducible refine finA hC ?_); clear hC C
    cases hgt : (g (.mk k id ss)).2 with
    | true =>
      (repeat' (first | ((with_reducible first | refine aops_cons' fun C hC => ?_ | refine aopsD_cons' fun C hC => ?_ | intro C hC); simp only [go_sem, cells_enc, hgt]; ((with_reducible first | refine finA hC ?_ | refine finD hC ?_); clear hC C)) | (with_reducible first | refine awp_seq_k fun K hK => ?_ | refine awp_reg_k fun K hK => ?_ | refine awp_dreg_k fun K hK => ?_ | (refine aops_nil ?_; refine hK _ _ ?_; try clear hK K) | (refine aopsD_nil ?_; refine hK _ _ _ ?_ ?_; (focus kernel_rfl); try clear hK K) | (refine thn_normal ?_; refine hK _ _ ?_; try clear hK K) | refine catch_normal ?_ | refine awp_skip_k ?_ | refine awp_ret_k ?_ | refine awp_exit_k ?_ | refine awp_block_k ?_ | (refine thn_exit ?_; try clear hK K) | (refine thn_ret ?_; try clear hK K) | refine catch_ret ?_ | refine catch_exit ?_ | (refine catch_other ?_ ?_; focus decide)) | ((with_reducible first | apply aops_guard' | apply aopsD_guard' | apply awp_cond_g); focus (simp only [go_sem, cells_enc, hgt]; exact rfl)) | (with_reducible first | refine gk_tt ?_ | refine gk_ff ?_ | refine ck_t ?_ | refine ck_f ?_) | ((with_reducible first | refine gk_tf ?_ | refine gk_ft ?_ | refine gk_u ?_ | refine gk_u' ?_); first | (intro _ e; (first | rw [put_some] at e | rw [put_none] at e); subst e) | (intro _ _ e e'; (first | rw [put_some] at e | rw [put_none] at e); subst e; subst e'))))
      refine retP_ret [] rfl ?_
      simp only [mapT, hgt, if_true, enc_eq]
      exact vwA
    | false =>
      (repeat' (first | ((with_reducible first | refine aops_cons' fun C hC => ?_ | refine aopsD_cons' fun C hC => ?_ | intro C hC); simp only [go_sem, cells_enc, hgt, encL_len]; ((with_reducible first | refine finA hC ?_ | refine finD hC ?_); clear hC C)) | (with_reducible first | refine awp_seq_k fun K hK => ?_ | refine awp_reg_k fun K hK => ?_ | refine awp_dreg_k fun K hK => ?_ | (refine aops_nil ?_; refine hK _ _ ?_; try clear hK K) | (refine aopsD_nil ?_; refine hK _ _ _ ?_ ?_; (focus kernel_rfl); try clear hK K) | (refine thn_normal ?_; refine hK _ _ ?_; try clear hK K) | refine catch_normal ?_ | refine awp_skip_k ?_ | refine awp_ret_k ?_ | refine awp_exit_k ?_ | refine awp_block_k ?_ | (refine thn_exit ?_; try clear hK K) | (refine thn_ret ?_; try clear hK K) | refine catch_ret ?_ | refine catch_exit ?_ | (refine catch_other ?_ ?_; focus decide)) | ((with_reducible first | apply aops_guard' | apply aopsD_guard' | apply awp_cond_g); focus (simp only [go_sem, cells_enc, hgt, encL_len]; exact rfl)) | (with_reducible first | refine gk_tt ?_ | refine gk_ff ?_ | refine ck_t ?_ | refine ck_f ?_) | ((with_reducible first | refine gk_tf ?_ | refine gk_ft ?_ | refine gk_u ?_ | refine gk_u' ?_); first | (intro _ e; (first | rw [put_some] at e | rw [put_none] at e); subst e) | (intro _ _ e e'; (first | rw [put_some] at e | rw [put_none] at e); subst e; subst e'))))
      have rows : ∀ (rest pre : List Ty), pre ++ rest = ss → loopN (awp Try.prog ac51_l0) (catch_ 0 (thn K (retP [RV.cell 4 3 true] [(mapT g (.mk k id ss)).enc]))) (rest.length + 1)
         [(26, .pv (ii pre.length)), (25, .pv (ii ss.length)), (24, .pv (.list 3 (encL ss))), (7, .ptr 1 0 0), (4, .ptr 0 0 0), (1, .pv (.fn fid caps))]
         [some ⟨false, 29, 3, [[.pv (ii 0), .pv (ii 0), .pv (.lit (.slice none 0 0))]], none⟩, some ⟨false, 29, 3, [[.pv (ii k), .pv (ii id), .row 2 pre.length false]], none⟩,
          some ⟨false, 29, 3, (mapTL g pre).map Ty.tc, none⟩] := by
        intro rest
        induction rest with
        | nil =>
          intro pre hpre
          have hpre : pre = ss := by simpa using hpre
          subst hpre
          refine loopN_k fun K1 hK1 => ?_
          unfold ac51_l0
          (repeat' (first | ((with_reducible first | refine aops_cons' fun C hC => ?_ | refine aopsD_cons' fun C hC => ?_ | intro C hC); simp only [go_sem, lt_end]; ((with_reducible first | refine finA hC ?_ | refine finD hC ?_); clear hC C)) | (with_reducible first | refine awp_seq_k fun K hK => ?_ | refine awp_reg_k fun K hK => ?_ | refine awp_dreg_k fun K hK => ?_ | (refine aops_nil ?_; refine hK _ _ ?_; try clear hK K) | (refine aopsD_nil ?_; refine hK _ _ _ ?_ ?_; (focus kernel_rfl); try clear hK K) | (refine thn_normal ?_; refine hK _ _ ?_; try clear hK K) | refine catch_normal ?_ | refine awp_skip_k ?_ | refine awp_ret_k ?_ | refine awp_exit_k ?_ | refine awp_block_k ?_ | (refine thn_exit ?_; try clear hK K) | (refine thn_ret ?_; try clear hK K) | refine catch_ret ?_ | refine catch_exit ?_ | (refine catch_other ?_ ?_; focus decide)) | ((with_reducible first | apply aops_guard' | apply aopsD_guard' | apply awp_cond_g); focus (simp only [go_sem, lt_end]; exact rfl)) | (with_reducible first | refine gk_tt ?_ | refine gk_ff ?_ | refine ck_t ?_ | refine ck_f ?_) | ((with_reducible first | refine gk_tf ?_ | refine gk_ft ?_ | refine gk_u ?_ | refine gk_u' ?_); first | (intro _ e; (first | rw [put_some] at e | rw [put_none] at e); subst e) | (intro _ _ e e'; (first | rw [put_some] at e | rw [put_none] at e); subst e; subst e'))))
          refine retP_ret [2] rfl (.cons _ _ _ _ ?_ .nil)
          rw [mapT, hgt, enc_eq]
          refine .agg _ _ (.cons _ _ _ _ (.pv _) (.cons _ _ _ _ (.pv _) (.cons _ _ _ _ ?_ .nil)))
          exact row_view (by simp) rfl (by simp [mapTL_len]) (VwE_tc _)
        | cons t rest ih =>
          intro pre hpre
          have hlt : decide ((pre.length : Int) < (ss.length : Int)) = true := by subst hpre; exact lt_app _ _ _
          have hat : (encL ss)[pre.length]? = some t.enc := by subst hpre; exact encL_at _ _ _
          have hb : pre.length + 1 ≤ big := by have := congrArg List.length hpre; simp at this; unfold big; omega
          refine loopN_k fun K1 hK1 => ?_
          unfold ac51_l0
          (repeat' (first | ((with_reducible first | refine aops_cons' fun C hC => ?_ | refine aopsD_cons' fun C hC => ?_ | intro C hC); simp only [go_sem, hlt, hat, cells_enc, pcells_enc]; ((with_reducible first | refine finA hC ?_ | refine finD hC ?_); clear hC C)) | (with_reducible first | refine awp_seq_k fun K hK => ?_ | refine awp_reg_k fun K hK => ?_ | refine awp_dreg_k fun K hK => ?_ | (refine aops_nil ?_; refine hK _ _ ?_; try clear hK K) | (refine aopsD_nil ?_; refine hK _ _ _ ?_ ?_; (focus kernel_rfl); try clear hK K) | (refine thn_normal ?_; refine hK _ _ ?_; try clear hK K) | refine catch_normal ?_ | refine awp_skip_k ?_ | refine awp_ret_k ?_ | refine awp_exit_k ?_ | refine awp_block_k ?_ | (refine thn_exit ?_; try clear hK K) | (refine thn_ret ?_; try clear hK K) | refine catch_ret ?_ | refine catch_exit ?_ | (refine catch_other ?_ ?_; focus decide)) | ((with_reducible first | apply aops_guard' | apply aopsD_guard' | apply awp_cond_g); focus (simp only [go_sem, hlt, hat, cells_enc, pcells_enc]; exact rfl)) | (with_reducible first | refine gk_tt ?_ | refine gk_ff ?_ | refine ck_t ?_ | refine ck_f ?_) | ((with_reducible first | refine gk_tf ?_ | refine gk_ft ?_ | refine gk_u ?_ | refine gk_u' ?_); first | (intro _ e; (first | rw [put_some] at e | rw [put_none] at e); subst e) | (intro _ _ e e'; (first | rw [put_some] at e | rw [put_none] at e); subst e; subst e'))))
          (refine aopsD_cons rfl fun C hC => ?_; simp only [go_sem]; refine ACall.pure0 [] (hrec t (by subst hpre; simp)) ?_ ?_; (focus (exact vwA)); simp only [PV.scal, PV.scalL, if_true, Bool.and_true, Bool.and_false, Bool.false_and, Bool.true_and, frz, List.map_nil, Bool.false_eq_true, if_false, ite_self]; (with_reducible refine finD hC ?_); clear hC C)
          (repeat' (first | ((with_reducible first | refine aops_cons' fun C hC => ?_ | refine aopsD_cons' fun C hC => ?_ | intro C hC); simp only [go_sem, hlt, hat, cells_enc, pcells_enc, tc_len, List.length_map, mapTL_len, hb]; ((with_reducible first | refine finA hC ?_ | refine finD hC ?_); clear hC C)) | (with_reducible first | refine awp_seq_k fun K hK => ?_ | refine awp_reg_k fun K hK => ?_ | refine awp_dreg_k fun K hK => ?_ | (refine aops_nil ?_; refine hK _ _ ?_; try clear hK K) | (refine aopsD_nil ?_; refine hK _ _ _ ?_ ?_; (focus kernel_rfl); try clear hK K) | (refine thn_normal ?_; refine hK _ _ ?_; try clear hK K) | refine catch_normal ?_ | refine awp_skip_k ?_ | refine awp_ret_k ?_ | refine awp_exit_k ?_ | refine awp_block_k ?_ | (refine thn_exit ?_; try clear hK K) | (refine thn_ret ?_; try clear hK K) | refine catch_ret ?_ | refine catch_exit ?_ | (refine catch_other ?_ ?_; focus decide)) | ((with_reducible first | apply aops_guard' | apply aopsD_guard' | apply awp_cond_g); focus (simp only [go_sem, hlt, hat, cells_enc, pcells_enc, tc_len, List.length_map, mapTL_len, hb]; exact rfl)) | (with_reducible first | refine gk_tt ?_ | refine gk_ff ?_ | refine ck_t ?_ | refine ck_f ?_) | ((with_reducible first | refine gk_tf ?_ | refine gk_ft ?_ | refine gk_u ?_ | refine gk_u' ?_); first | (intro _ e; (first | rw [put_some] at e | rw [put_none] at e); subst e) | (intro _ _ e e'; (first | rw [put_some] at e | rw [put_none] at e); subst e; subst e'))))
          have hw := wrapS (n := pre.length) (by unfold big at hb; omega)
          refine thn_normal ?_
          refine hK1 _ _ _ _ _ (LeB [0, 1, 10] (by refine ⟨?_, ?_, ?_⟩ <;> simp only [leFr, leFb, leHp, V.ren, V.renL, V.bd, V.bdL, allL, lt, Go.Ab.get, hget, List.map_cons, List.map_nil, List.length_cons, List.length_nil, List.length_append, List.getElem?_cons_zero, List.getElem?_cons_succ, List.getElem?_nil, Option.join_some, Option.join_none, List.getD_cons_zero, List.getD_cons_succ, List.getD_nil, Nat.reduceAdd, Nat.reduceLT, Nat.reduceEqDiff, Nat.zero_add, reduceIte, if_true, if_false, and_true, true_and, renL_vcells, allL_vcells, renL_pv, leBlk_some, eq_self, true_or, or_true, reduceCtorEq, false_or, hw, mapTL_app, mapTL, List.map_append, renL_tc, renL_tc1, allL_tc, allL_app, bdL_tc, allL])) (ih (pre ++ [t]) (by simp [hpre]))
      have first : loopN (awp Try.prog ac51_l0) (catch_ 0 (thn K (retP [RV.cell 4 3 true] [(mapT g (.mk k id ss)).enc]))) (ss.length + 1)
         [(26, .pv (ii 0)), (25, .pv (ii ss.length)), (24, .pv (.list 3 (encL ss))), (7, .ptr 1 0 0), (4, .ptr 0 0 0), (1, .pv (.fn fid caps))]
         [some ⟨false, 29, 3, [[.pv (ii 0), .pv (ii 0), .pv (.lit (.slice none 0 0))]], none⟩, some ⟨false, 29, 3, [[.pv (ii k), .pv (ii id), .pv (.lit (.slice none 0 0))]], none⟩] := by
        refine loopN_k fun K1 hK1 => ?_
        unfold ac51_l0
        cases hs : ss with
        | nil =>
          subst hs
          (repeat' (first | ((with_reducible first | refine aops_cons' fun C hC => ?_ | refine aopsD_cons' fun C hC => ?_ | intro C hC); simp only [go_sem, lt_zero]; ((with_reducible first | refine finA hC ?_ | refine finD hC ?_); clear hC C)) | (with_reducible first | refine awp_seq_k fun K hK => ?_ | refine awp_reg_k fun K hK => ?_ | refine awp_dreg_k fun K hK => ?_ | (refine aops_nil ?_; refine hK _ _ ?_; try clear hK K) | (refine aopsD_nil ?_; refine hK _ _ _ ?_ ?_; (focus kernel_rfl); try clear hK K) | (refine thn_normal ?_; refine hK _ _ ?_; try clear hK K) | refine catch_normal ?_ | refine awp_skip_k ?_ | refine awp_ret_k ?_ | refine awp_exit_k ?_ | refine awp_block_k ?_ | (refine thn_exit ?_; try clear hK K) | (refine thn_ret ?_; try clear hK K) | refine catch_ret ?_ | refine catch_exit ?_ | (refine catch_other ?_ ?_; focus decide)) | ((with_reducible first | apply aops_guard' | apply aopsD_guard' | apply awp_cond_g); focus (simp only [go_sem, lt_zero]; exact rfl)) | (with_reducible first | refine gk_tt ?_ | refine gk_ff ?_ | refine ck_t ?_ | refine ck_f ?_) | ((with_reducible first | refine gk_tf ?_ | refine gk_ft ?_ | refine gk_u ?_ | refine gk_u' ?_); first | (intro _ e; (first | rw [put_some] at e | rw [put_none] at e); subst e) | (intro _ _ e e'; (first | rw [put_some] at e | rw [put_none] at e); subst e; subst e'))))
          refine retP_ret [] rfl (.cons _ _ _ _ ?_ .nil)
          rw [mapT, hgt, enc_eq]
          exact .agg _ _ (.cons _ _ _ _ (.pv _) (.cons _ _ _ _ (.pv _) (.cons _ _ _ _ Vw_nil .nil)))
        | cons t rest =>
          subst hs
          have lt0 : decide ((0 : Int) < ((t :: rest).length : Int)) = true := by simp
          (repeat' (first | ((with_reducible first | refine aops_cons' fun C hC => ?_ | refine aopsD_cons' fun C hC => ?_ | intro C hC); simp only [go_sem, lt0, encL, cells_enc, pcells_enc]; ((with_reducible first | refine finA hC ?_ | refine finD hC ?_); clear hC C)) | (with_reducible first | refine awp_seq_k fun K hK => ?_ | refine awp_reg_k fun K hK => ?_ | refine awp_dreg_k fun K hK => ?_ | (refine aops_nil ?_; refine hK _ _ ?_; try clear hK K) | (refine aopsD_nil ?_; refine hK _ _ _ ?_ ?_; (focus kernel_rfl); try clear hK K) | (refine thn_normal ?_; refine hK _ _ ?_; try clear hK K) | refine catch_normal ?_ | refine awp_skip_k ?_ | refine awp_ret_k ?_ | refine awp_exit_k ?_ | refine awp_block_k ?_ | (refine thn_exit ?_; try clear hK K) | (refine thn_ret ?_; try clear hK K) | refine catch_ret ?_ | refine catch_exit ?_ | (refine catch_other ?_ ?_; focus decide)) | ((with_reducible first | apply aops_guard' | apply aopsD_guard' | apply awp_cond_g); focus (simp only [go_sem, lt0, encL, cells_enc, pcells_enc]; exact rfl)) | (with_reducible first | refine gk_tt ?_ | refine gk_ff ?_ | refine ck_t ?_ | refine ck_f ?_) | ((with_reducible first | refine gk_tf ?_ | refine gk_ft ?_ | refine gk_u ?_ | refine gk_u' ?_); first | (intro _ e; (first | rw [put_some] at e | rw [put_none] at e); subst e) | (intro _ _ e e'; (first | rw [put_some] at e | rw [put_none] at e); subst e; subst e'))))
          (refine aopsD_cons rfl fun C hC => ?_; simp only [go_sem]; refine ACall.pure0 [] (hrec t (by simp)) ?_ ?_; (focus (exact vwA)); simp only [PV.scal, PV.scalL, if_true, Bool.and_true, Bool.and_false, Bool.false_and, Bool.true_and, frz, List.map_nil, Bool.false_eq_true, if_false, ite_self]; (with_reducible refine finD hC ?_); clear hC C)
          (repeat' (first | ((with_reducible first | refine aops_cons' fun C hC => ?_ | refine aopsD_cons' fun C hC => ?_ | intro C hC); simp only [go_sem, cells_enc, pcells_enc, tc_len, List.length_map, mapTL_len]; ((with_reducible first | refine finA hC ?_ | refine finD hC ?_); clear hC C)) | (with_reducible first | refine awp_seq_k fun K hK => ?_ | refine awp_reg_k fun K hK => ?_ | refine awp_dreg_k fun K hK => ?_ | (refine aops_nil ?_; refine hK _ _ ?_; try clear hK K) | (refine aopsD_nil ?_; refine hK _ _ _ ?_ ?_; (focus kernel_rfl); try clear hK K) | (refine thn_normal ?_; refine hK _ _ ?_; try clear hK K) | refine catch_normal ?_ | refine awp_skip_k ?_ | refine awp_ret_k ?_ | refine awp_exit_k ?_ | refine awp_block_k ?_ | (refine thn_exit ?_; try clear hK K) | (refine thn_ret ?_; try clear hK K) | refine catch_ret ?_ | refine catch_exit ?_ | (refine catch_other ?_ ?_; focus decide)) | ((with_reducible first | apply aops_guard' | apply aopsD_guard' | apply awp_cond_g); focus (simp only [go_sem, cells_enc, pcells_enc, tc_len, List.length_map, mapTL_len]; exact rfl)) | (with_reducible first | refine gk_tt ?_ | refine gk_ff ?_ | refine ck_t ?_ | refine ck_f ?_) | ((with_reducible first | refine gk_tf ?_ | refine gk_ft ?_ | refine gk_u ?_ | refine gk_u' ?_); first | (intro _ e; (first | rw [put_some] at e | rw [put_none] at e); subst e) | (intro _ _ e e'; (first | rw [put_some] at e | rw [put_none] at e); subst e; subst e'))))
          refine thn_normal ?_
          refine hK1 _ _ _ _ _ (LeB [0, 1, 9] (by refine ⟨?_, ?_, ?_⟩ <;> simp only [leFr, leFb, leHp, V.ren, V.renL, V.bd, V.bdL, allL, lt, Go.Ab.get, hget, List.map_cons, List.map_nil, List.length_cons, List.length_nil, List.length_append, List.getElem?_cons_zero, List.getElem?_cons_succ, List.getElem?_nil, Option.join_some, Option.join_none, List.getD_cons_zero, List.getD_cons_succ, List.getD_nil, Nat.reduceAdd, Nat.reduceLT, Nat.reduceEqDiff, Nat.zero_add, reduceIte, if_true, if_false, and_true, true_and, renL_vcells, allL_vcells, renL_pv, leBlk_some, eq_self, true_or, or_true, reduceCtorEq, false_or, wrap01, mapTL, renL_tc, renL_tc1, allL_tc, allL_app, bdL_tc, allL])) (rows rest [t] rfl)
      refine awp_loop_k _ (LeB [1, 3] (by refine ⟨?_, ?_, ?_⟩ <;> simp only [leFr, leFb, leHp, V.ren, V.renL, V.bd, V.bdL, allL, lt, Go.Ab.get, hget, List.map_cons, List.map_nil, List.length_cons, List.length_nil, List.length_append, List.getElem?_cons_zero, List.getElem?_cons_succ, List.getElem?_nil, Option.join_some, Option.join_none, List.getD_cons_zero, List.getD_cons_succ, List.getD_nil, Nat.reduceAdd, Nat.reduceLT, Nat.reduceEqDiff, Nat.zero_add, reduceIte, if_true, if_false, and_true, true_and, renL_vcells, allL_vcells, renL_pv, leBlk_some, eq_self, true_or, or_true, reduceCtorEq, false_or])) first
termination_by t => SizeOf.sizeOf t
decreasing_by
  have := List.sizeOf_lt_of_mem ht
  simp only [Ty.mk.sizeOf_spec]; omega
end Go.Proofs.Ytiediojibljpiaa
/- Types: clone, constructors, looking for one. -/
set_option maxRecDepth 10000
set_option linter.unusedSimpArgs false
set_option linter.unusedVariables false
namespace Go.Proofs.Ytiediojibljpiaa
open Go Go.Ab
theorem c0 : ((0 : Nat) : Int) = 0 := rfl
mutual
theorem mapT_id {g : Ty → Ty × Bool} (h : ∀ t, (g t).2 = false) : ∀ t, mapT g t = t
  | .mk k id ss => by simp only [mapT, h, Bool.false_eq_true, if_false, mapTL_id h ss]
theorem mapTL_id {g : Ty → Ty × Bool} (h : ∀ t, (g t).2 = false) : ∀ ts, mapTL g ts = ts
  | [] => rfl
  | t :: ts => by simp only [mapTL, mapT_id h t, mapTL_id h ts]
end
theorem clone1_ok (t : Ty) : PCall Try.prog 69 [t.enc] (.tup [(Ty.mk 0 0 []).enc, bb false]) := by
  refine PCall.intro (ps := [(Ty.mk 0 0 []).enc, bb false]) fn69 (by simp) ?_
  unfold ac69
  simp only [argFr]
  (repeat' (first | ((with_reducible first | refine aops_cons' fun C hC => ?_ | refine aopsD_cons' fun C hC => ?_ | intro C hC); simp only [go_sem, cells_enc, tc_len, enc_eq]; ((with_reducible first | refine finA hC ?_ | refine finD hC ?_); clear hC C)) | (with_reducible first | refine awp_seq_k fun K hK => ?_ | refine awp_reg_k fun K hK => ?_ | refine awp_dreg_k fun K hK => ?_ | (refine aops_nil ?_; refine hK _ _ ?_; try clear hK K) | (refine aopsD_nil ?_; refine hK _ _ _ ?_ ?_; (focus kernel_rfl); try clear hK K) | (refine thn_normal ?_; refine hK _ _ ?_; try clear hK K) | refine catch_normal ?_ | refine awp_skip_k ?_ | refine awp_ret_k ?_ | refine awp_exit_k ?_ | refine awp_block_k ?_ | (refine thn_exit ?_; try clear hK K) | (refine thn_ret ?_; try clear hK K) | refine catch_ret ?_ | refine catch_exit ?_ | (refine catch_other ?_ ?_; focus decide)) | ((with_reducible first | apply aops_guard' | apply aopsD_guard' | apply awp_cond_g); focus (simp only [go_sem, cells_enc, tc_len, enc_eq]; exact rfl)) | (with_reducible first | refine gk_tt ?_ | refine gk_ff ?_ | refine ck_t ?_ | refine ck_f ?_) | ((with_reducible first | refine gk_tf ?_ | refine gk_ft ?_ | refine gk_u ?_ | refine gk_u' ?_); first | (intro _ e; (first | rw [put_some] at e | rw [put_none] at e); subst e) | (intro _ _ e e'; (first | rw [put_some] at e | rw [put_none] at e); subst e; subst e'))))
  (refine retP_ret (List.range 40) rfl ?_; (try simp only [Ty.enc, encL, if_true, if_false, Bool.false_eq_true, Bool.not_true, Bool.not_false]); exact vwA)
theorem clone_ok (t : Ty) : PCall Try.prog 55 [t.enc] t.enc := by
  have hm := map_ok 69 [] (fun _ => (Ty.mk 0 0 [], false)) (fun t => clone1_ok t) t
  rw [mapT_id (fun _ => rfl)] at hm
  refine PCall.intro (ps := [t.enc]) fn55 (by simp) ?_
  unfold ac55
  simp only [argFr]
  (repeat' (first | ((first | (with_reducible refine aops_call fun C hC => ?_) | (with_reducible refine aopsD_call fun C hC => ?_) | ((with_reducible intro C hC); (with_reducible refine ax_call_mp ?_))); (first | (simp only [go_sem, cells_enc, tc_len, Ty.tc]; (first | ((with_reducible apply ACall.pure0 [] (hm)); (focus (exact vwA)))))); (simp only [PV.scal, PV.scalL, if_true, Bool.and_true, Bool.and_false, Bool.false_and, Bool.true_and, frz, List.map_nil, Bool.false_eq_true, if_false, ite_self, cells_enc, tc_len, Ty.tc]); ((with_reducible first | refine finA hC ?_ | refine finD hC ?_); clear hC C)) | ((with_reducible first | refine aops_cons' fun C hC => ?_ | refine aopsD_cons' fun C hC => ?_ | intro C hC); simp only [go_sem, cells_enc, tc_len, Ty.tc]; ((with_reducible first | refine finA hC ?_ | refine finD hC ?_); clear hC C)) | (with_reducible first | refine awp_seq_k fun K hK => ?_ | refine awp_reg_k fun K hK => ?_ | refine awp_dreg_k fun K hK => ?_ | (refine aops_nil ?_; refine hK _ _ ?_; try clear hK K) | (refine aopsD_nil ?_; refine hK _ _ _ ?_ ?_; (focus kernel_rfl); try clear hK K) | (refine thn_normal ?_; refine hK _ _ ?_; try clear hK K) | refine catch_normal ?_ | refine awp_skip_k ?_ | refine awp_ret_k ?_ | refine awp_exit_k ?_ | refine awp_block_k ?_ | (refine thn_exit ?_; try clear hK K) | (refine thn_ret ?_; try clear hK K) | refine catch_ret ?_ | refine catch_exit ?_ | (refine catch_other ?_ ?_; focus decide)) | ((with_reducible first | apply aops_guard' | apply aopsD_guard' | apply awp_cond_g); focus (simp only [go_sem, cells_enc, tc_len, Ty.tc]; exact rfl)) | (with_reducible first | refine gk_tt ?_ | refine gk_ff ?_ | refine ck_t ?_ | refine ck_f ?_) | ((with_reducible first | refine gk_tf ?_ | refine gk_ft ?_ | refine gk_u ?_ | refine gk_u' ?_); first | (intro _ e; (first | rw [put_some] at e | rw [put_none] at e); subst e) | (intro _ _ e e'; (first | rw [put_some] at e | rw [put_none] at e); subst e; subst e'))))
  (refine retP_ret (List.range 40) rfl ?_; exact vwA)
theorem typ_ok (k id : Int) (ss : List Ty) : PCall Try.prog 26 [ii k, ii id, .list 3 (encL ss)] (Ty.mk k id ss).enc := by
  refine PCall.intro (ps := [(Ty.mk k id ss).enc]) fn26 (by simp) ?_
  unfold ac26
  simp only [argFr]
  (repeat' (first | ((with_reducible first | refine aops_cons' fun C hC => ?_ | refine aopsD_cons' fun C hC => ?_ | intro C hC); simp only [go_sem, cells_enc, tc_len, enc_eq]; ((with_reducible first | refine finA hC ?_ | refine finD hC ?_); clear hC C)) | (with_reducible first | refine awp_seq_k fun K hK => ?_ | refine awp_reg_k fun K hK => ?_ | refine awp_dreg_k fun K hK => ?_ | (refine aops_nil ?_; refine hK _ _ ?_; try clear hK K) | (refine aopsD_nil ?_; refine hK _ _ _ ?_ ?_; (focus kernel_rfl); try clear hK K) | (refine thn_normal ?_; refine hK _ _ ?_; try clear hK K) | refine catch_normal ?_ | refine awp_skip_k ?_ | refine awp_ret_k ?_ | refine awp_exit_k ?_ | refine awp_block_k ?_ | (refine thn_exit ?_; try clear hK K) | (refine thn_ret ?_; try clear hK K) | refine catch_ret ?_ | refine catch_exit ?_ | (refine catch_other ?_ ?_; focus decide)) | ((with_reducible first | apply aops_guard' | apply aopsD_guard' | apply awp_cond_g); focus (simp only [go_sem, cells_enc, tc_len, enc_eq]; exact rfl)) | (with_reducible first | refine gk_tt ?_ | refine gk_ff ?_ | refine ck_t ?_ | refine ck_f ?_) | ((with_reducible first | refine gk_tf ?_ | refine gk_ft ?_ | refine gk_u ?_ | refine gk_u' ?_); first | (intro _ e; (first | rw [put_some] at e | rw [put_none] at e); subst e) | (intro _ _ e e'; (first | rw [put_some] at e | rw [put_none] at e); subst e; subst e'))))
  (refine retP_ret (List.range 40) rfl ?_; (try simp only [Ty.enc, if_true, if_false, Bool.false_eq_true, Bool.not_true, Bool.not_false]); exact vwA)
theorem tvar_ok (id : Int) : PCall Try.prog 19 [ii id] (Ty.mk 1 id []).enc := by
  refine PCall.intro (ps := [(Ty.mk 1 id []).enc]) fn19 (by simp) ?_
  unfold ac19
  simp only [argFr]
  (repeat' (first | ((first | (with_reducible refine aops_call fun C hC => ?_) | (with_reducible refine aopsD_call fun C hC => ?_) | ((with_reducible intro C hC); (with_reducible refine ax_call_mp ?_))); (first | (simp only [go_sem, cells_enc, tc_len, Ty.tc]; (first | ((with_reducible apply ACall.pure0 [] (typ_ok 1 id [])); (focus (exact vwA)))))); (simp only [PV.scal, PV.scalL, if_true, Bool.and_true, Bool.and_false, Bool.false_and, Bool.true_and, frz, List.map_nil, Bool.false_eq_true, if_false, ite_self, cells_enc, tc_len, Ty.tc]); ((with_reducible first | refine finA hC ?_ | refine finD hC ?_); clear hC C)) | ((with_reducible first | refine aops_cons' fun C hC => ?_ | refine aopsD_cons' fun C hC => ?_ | intro C hC); simp only [go_sem, cells_enc, tc_len, Ty.tc]; ((with_reducible first | refine finA hC ?_ | refine finD hC ?_); clear hC C)) | (with_reducible first | refine awp_seq_k fun K hK => ?_ | refine awp_reg_k fun K hK => ?_ | refine awp_dreg_k fun K hK => ?_ | (refine aops_nil ?_; refine hK _ _ ?_; try clear hK K) | (refine aopsD_nil ?_; refine hK _ _ _ ?_ ?_; (focus kernel_rfl); try clear hK K) | (refine thn_normal ?_; refine hK _ _ ?_; try clear hK K) | refine catch_normal ?_ | refine awp_skip_k ?_ | refine awp_ret_k ?_ | refine awp_exit_k ?_ | refine awp_block_k ?_ | (refine thn_exit ?_; try clear hK K) | (refine thn_ret ?_; try clear hK K) | refine catch_ret ?_ | refine catch_exit ?_ | (refine catch_other ?_ ?_; focus decide)) | ((with_reducible first | apply aops_guard' | apply aopsD_guard' | apply awp_cond_g); focus (simp only [go_sem, cells_enc, tc_len, Ty.tc]; exact rfl)) | (with_reducible first | refine gk_tt ?_ | refine gk_ff ?_ | refine ck_t ?_ | refine ck_f ?_) | ((with_reducible first | refine gk_tf ?_ | refine gk_ft ?_ | refine gk_u ?_ | refine gk_u' ?_); first | (intro _ e; (first | rw [put_some] at e | rw [put_none] at e); subst e) | (intro _ _ e e'; (first | rw [put_some] at e | rw [put_none] at e); subst e; subst e'))))
  (refine retP_ret (List.range 40) rfl ?_; exact vwA)
theorem tint_ok : PCall Try.prog 46 [] (Ty.mk 3 0 []).enc := by
  refine PCall.intro (ps := [(Ty.mk 3 0 []).enc]) fn46 (by simp) ?_
  unfold ac46
  simp only [argFr]
  (repeat' (first | ((first | (with_reducible refine aops_call fun C hC => ?_) | (with_reducible refine aopsD_call fun C hC => ?_) | ((with_reducible intro C hC); (with_reducible refine ax_call_mp ?_))); (first | (simp only [go_sem, cells_enc, tc_len, Ty.tc]; (first | ((with_reducible apply ACall.pure0 [] (typ_ok 3 0 [])); (focus (exact vwA)))))); (simp only [PV.scal, PV.scalL, if_true, Bool.and_true, Bool.and_false, Bool.false_and, Bool.true_and, frz, List.map_nil, Bool.false_eq_true, if_false, ite_self, cells_enc, tc_len, Ty.tc]); ((with_reducible first | refine finA hC ?_ | refine finD hC ?_); clear hC C)) | ((with_reducible first | refine aops_cons' fun C hC => ?_ | refine aopsD_cons' fun C hC => ?_ | intro C hC); simp only [go_sem, cells_enc, tc_len, Ty.tc]; ((with_reducible first | refine finA hC ?_ | refine finD hC ?_); clear hC C)) | (with_reducible first | refine awp_seq_k fun K hK => ?_ | refine awp_reg_k fun K hK => ?_ | refine awp_dreg_k fun K hK => ?_ | (refine aops_nil ?_; refine hK _ _ ?_; try clear hK K) | (refine aopsD_nil ?_; refine hK _ _ _ ?_ ?_; (focus kernel_rfl); try clear hK K) | (refine thn_normal ?_; refine hK _ _ ?_; try clear hK K) | refine catch_normal ?_ | refine awp_skip_k ?_ | refine awp_ret_k ?_ | refine awp_exit_k ?_ | refine awp_block_k ?_ | (refine thn_exit ?_; try clear hK K) | (refine thn_ret ?_; try clear hK K) | refine catch_ret ?_ | refine catch_exit ?_ | (refine catch_other ?_ ?_; focus decide)) | ((with_reducible first | apply aops_guard' | apply aopsD_guard' | apply awp_cond_g); focus (simp only [go_sem, cells_enc, tc_len, Ty.tc]; exact rfl)) | (with_reducible first | refine gk_tt ?_ | refine gk_ff ?_ | refine ck_t ?_ | refine ck_f ?_) | ((with_reducible first | refine gk_tf ?_ | refine gk_ft ?_ | refine gk_u ?_ | refine gk_u' ?_); first | (intro _ e; (first | rw [put_some] at e | rw [put_none] at e); subst e) | (intro _ _ e e'; (first | rw [put_some] at e | rw [put_none] at e); subst e; subst e'))))
  (refine retP_ret (List.range 40) rfl ?_; exact vwA)
/-- the place of the first one -/
def idxF {α : Type} (p : α → Bool) : List α → Nat → Int
  | [], _ => -1
  | x :: xs, i => if p x then (i : Int) else idxF p xs (i + 1)
set_option maxHeartbeats 1000000 in
theorem idxT_ok (fid : FuncId) (caps : List PV) (p : Ty → Bool) (ts : List Ty) (hp : ∀ t ∈ ts, PCall Try.prog fid ([Ty.enc t] ++ caps) (bb (p t))) : PCall Try.prog 84 [.list 3 (encL ts), .fn fid caps] (ii (idxF p ts 0)) := by
  refine PCall.intro' (ps := [ii (idxF p ts 0)]) fn84 (by simp) fun hok => ?_
  have hss : ts.length ≤ 1099511627776 := by
    simp only [PV.okL, PV.ok, encL_len, big] at hok; exact hok.1.1
  clear hok
  unfold ac84
  simp only [argFr]
  (repeat' (first | ((with_reducible first | refine aops_cons' fun C hC => ?_ | refine aopsD_cons' fun C hC => ?_ | intro C hC); simp only [go_sem, encL_len]; ((with_reducible first | refine finA hC ?_ | refine finD hC ?_); clear hC C)) | (with_reducible first | refine awp_seq_k fun K hK => ?_ | refine awp_reg_k fun K hK => ?_ | refine awp_dreg_k fun K hK => ?_ | (refine aops_nil ?_; refine hK _ _ ?_; try clear hK K) | (refine aopsD_nil ?_; refine hK _ _ _ ?_ ?_; (focus kernel_rfl); try clear hK K) | (refine thn_normal ?_; refine hK _ _ ?_; try clear hK K) | refine catch_normal ?_ | refine awp_skip_k ?_ | refine awp_ret_k ?_ | refine awp_exit_k ?_ | refine awp_block_k ?_ | (refine thn_exit ?_; try clear hK K) | (refine thn_ret ?_; try clear hK K) | refine catch_ret ?_ | refine catch_exit ?_ | (refine catch_other ?_ ?_; focus decide)) | ((with_reducible first | apply aops_guard' | apply aopsD_guard' | apply awp_cond_g); focus (simp only [go_sem, encL_len]; exact rfl)) | (with_reducible first | refine gk_tt ?_ | refine gk_ff ?_ | refine ck_t ?_ | refine ck_f ?_) | ((with_reducible first | refine gk_tf ?_ | refine gk_ft ?_ | refine gk_u ?_ | refine gk_u' ?_); first | (intro _ e; (first | rw [put_some] at e | rw [put_none] at e); subst e) | (intro _ _ e e'; (first | rw [put_some] at e | rw [put_none] at e); subst e; subst e'))))
  have rows : ∀ (rest pre : List Ty), pre ++ rest = ts → idxF p ts 0 = idxF p rest pre.length → loopN (awp Try.prog ac84_l0) (catch_ 0 (thn K (retP [RV.tmp 4] [ii (idxF p ts 0)]))) (rest.length + 1)
     [(8, .pv (ii pre.length)), (7, .pv (ii ts.length)), (1, .pv (.fn fid caps)), (0, .pv (.list 3 (encL ts)))] [] := by
    intro rest
    induction rest with
    | nil =>
      intro pre hpre hi
      have hpre : pre = ts := by simpa using hpre
      subst hpre
      refine loopN_k fun K1 hK1 => ?_
      unfold ac84_l0
      (repeat' (first | ((with_reducible first | refine aops_cons' fun C hC => ?_ | refine aopsD_cons' fun C hC => ?_ | intro C hC); simp only [go_sem, lt_end]; ((with_reducible first | refine finA hC ?_ | refine finD hC ?_); clear hC C)) | (with_reducible first | refine awp_seq_k fun K hK => ?_ | refine awp_reg_k fun K hK => ?_ | refine awp_dreg_k fun K hK => ?_ | (refine aops_nil ?_; refine hK _ _ ?_; try clear hK K) | (refine aopsD_nil ?_; refine hK _ _ _ ?_ ?_; (focus kernel_rfl); try clear hK K) | (refine thn_normal ?_; refine hK _ _ ?_; try clear hK K) | refine catch_normal ?_ | refine awp_skip_k ?_ | refine awp_ret_k ?_ | refine awp_exit_k ?_ | refine awp_block_k ?_ | (refine thn_exit ?_; try clear hK K) | (refine thn_ret ?_; try clear hK K) | refine catch_ret ?_ | refine catch_exit ?_ | (refine catch_other ?_ ?_; focus decide)) | ((with_reducible first | apply aops_guard' | apply aopsD_guard' | apply awp_cond_g); focus (simp only [go_sem, lt_end]; exact rfl)) | (with_reducible first | refine gk_tt ?_ | refine gk_ff ?_ | refine ck_t ?_ | refine ck_f ?_) | ((with_reducible first | refine gk_tf ?_ | refine gk_ft ?_ | refine gk_u ?_ | refine gk_u' ?_); first | (intro _ e; (first | rw [put_some] at e | rw [put_none] at e); subst e) | (intro _ _ e e'; (first | rw [put_some] at e | rw [put_none] at e); subst e; subst e'))))
      rw [hi]
      (refine retP_ret (List.range 40) rfl ?_; (try simp only [idxF, if_true, if_false, Bool.false_eq_true, Bool.not_true, Bool.not_false]); exact vwA)
    | cons t rest ih =>
      intro pre hpre hi
      have hlt : decide ((pre.length : Int) < (ts.length : Int)) = true := by subst hpre; exact lt_app _ _ _
      have hat : (encL ts)[pre.length]? = some t.enc := by subst hpre; exact encL_at _ _ _
      have hb : pre.length + 1 ≤ big := by have := congrArg List.length hpre; simp at this; unfold big; omega
      have hc := hp t (by subst hpre; simp)
      refine loopN_k fun K1 hK1 => ?_
      unfold ac84_l0
      cases hpt : p t with
      | true =>
        rw [hpt] at hc
        (repeat' (first | ((first | (with_reducible refine aops_call fun C hC => ?_) | (with_reducible refine aopsD_call fun C hC => ?_) | ((with_reducible intro C hC); (with_reducible refine ax_call_mp ?_))); (first | (simp only [go_sem, hlt, hat, cells_enc, pcells_enc]; (first | ((with_reducible refine ACall.pure [] (.pv _) ?_ (hc) ?_); (focus (exact vwA)))))); (simp only [PV.scal, PV.scalL, if_true, Bool.and_true, Bool.and_false, Bool.false_and, Bool.true_and, frz, List.map_nil, Bool.false_eq_true, if_false, ite_self, hlt, hat, cells_enc, pcells_enc]); ((with_reducible first | refine finA hC ?_ | refine finD hC ?_); clear hC C)) | ((with_reducible first | refine aops_cons' fun C hC => ?_ | refine aopsD_cons' fun C hC => ?_ | intro C hC); simp only [go_sem, hlt, hat, cells_enc, pcells_enc]; ((with_reducible first | refine finA hC ?_ | refine finD hC ?_); clear hC C)) | (with_reducible first | refine awp_seq_k fun K hK => ?_ | refine awp_reg_k fun K hK => ?_ | refine awp_dreg_k fun K hK => ?_ | (refine aops_nil ?_; refine hK _ _ ?_; try clear hK K) | (refine aopsD_nil ?_; refine hK _ _ _ ?_ ?_; (focus kernel_rfl); try clear hK K) | (refine thn_normal ?_; refine hK _ _ ?_; try clear hK K) | refine catch_normal ?_ | refine awp_skip_k ?_ | refine awp_ret_k ?_ | refine awp_exit_k ?_ | refine awp_block_k ?_ | (refine thn_exit ?_; try clear hK K) | (refine thn_ret ?_; try clear hK K) | refine catch_ret ?_ | refine catch_exit ?_ | (refine catch_other ?_ ?_; focus decide)) | ((with_reducible first | apply aops_guard' | apply aopsD_guard' | apply awp_cond_g); focus (simp only [go_sem, hlt, hat, cells_enc, pcells_enc]; exact rfl)) | (with_reducible first | refine gk_tt ?_ | refine gk_ff ?_ | refine ck_t ?_ | refine ck_f ?_) | ((with_reducible first | refine gk_tf ?_ | refine gk_ft ?_ | refine gk_u ?_ | refine gk_u' ?_); first | (intro _ e; (first | rw [put_some] at e | rw [put_none] at e); subst e) | (intro _ _ e e'; (first | rw [put_some] at e | rw [put_none] at e); subst e; subst e'))))
        simp only [idxF, hpt, if_true] at hi
        rw [hi]
        (refine retP_ret (List.range 40) rfl ?_; exact vwA)
      | false =>
        rw [hpt] at hc
        (repeat' (first | ((first | (with_reducible refine aops_call fun C hC => ?_) | (with_reducible refine aopsD_call fun C hC => ?_) | ((with_reducible intro C hC); (with_reducible refine ax_call_mp ?_))); (first | (simp only [go_sem, hlt, hat, cells_enc, pcells_enc]; (first | ((with_reducible refine ACall.pure [] (.pv _) ?_ (hc) ?_); (focus (exact vwA)))))); (simp only [PV.scal, PV.scalL, if_true, Bool.and_true, Bool.and_false, Bool.false_and, Bool.true_and, frz, List.map_nil, Bool.false_eq_true, if_false, ite_self, hlt, hat, cells_enc, pcells_enc]); ((with_reducible first | refine finA hC ?_ | refine finD hC ?_); clear hC C)) | ((with_reducible first | refine aops_cons' fun C hC => ?_ | refine aopsD_cons' fun C hC => ?_ | intro C hC); simp only [go_sem, hlt, hat, cells_enc, pcells_enc]; ((with_reducible first | refine finA hC ?_ | refine finD hC ?_); clear hC C)) | (with_reducible first | refine awp_seq_k fun K hK => ?_ | refine awp_reg_k fun K hK => ?_ | refine awp_dreg_k fun K hK => ?_ | (refine aops_nil ?_; refine hK _ _ ?_; try clear hK K) | (refine aopsD_nil ?_; refine hK _ _ _ ?_ ?_; (focus kernel_rfl); try clear hK K) | (refine thn_normal ?_; refine hK _ _ ?_; try clear hK K) | refine catch_normal ?_ | refine awp_skip_k ?_ | refine awp_ret_k ?_ | refine awp_exit_k ?_ | refine awp_block_k ?_ | (refine thn_exit ?_; try clear hK K) | (refine thn_ret ?_; try clear hK K) | refine catch_ret ?_ | refine catch_exit ?_ | (refine catch_other ?_ ?_; focus decide)) | ((with_reducible first | apply aops_guard' | apply aopsD_guard' | apply awp_cond_g); focus (simp only [go_sem, hlt, hat, cells_enc, pcells_enc]; exact rfl)) | (with_reducible first | refine gk_tt ?_ | refine gk_ff ?_ | refine ck_t ?_ | refine ck_f ?_) | ((with_reducible first | refine gk_tf ?_ | refine gk_ft ?_ | refine gk_u ?_ | refine gk_u' ?_); first | (intro _ e; (first | rw [put_some] at e | rw [put_none] at e); subst e) | (intro _ _ e e'; (first | rw [put_some] at e | rw [put_none] at e); subst e; subst e'))))
        have hw := wrapS (n := pre.length) (by unfold big at hb; omega)
        refine thn_normal ?_
        refine hK1 _ _ _ _ _ (LeB [] (by refine ⟨?_, ?_, ?_⟩ <;> simp only [leFr, leFb, leHp, V.ren, V.renL, V.bd, V.bdL, allL, lt, Go.Ab.get, hget, List.map_cons, List.map_nil, List.length_cons, List.length_nil, List.length_append, List.getElem?_cons_zero, List.getElem?_cons_succ, List.getElem?_nil, Option.join_some, Option.join_none, List.getD_cons_zero, List.getD_cons_succ, List.getD_nil, Nat.reduceAdd, Nat.reduceLT, Nat.reduceEqDiff, Nat.zero_add, reduceIte, if_true, if_false, and_true, true_and, renL_vcells, allL_vcells, renL_pv, leBlk_some, eq_self, true_or, or_true, reduceCtorEq, false_or, hw, List.length_append])) (ih (pre ++ [t]) (by simp [hpre]) (by simpa [idxF, hpt] using hi))
  refine awp_loop_k _ (LeB [] (by refine ⟨?_, ?_, ?_⟩ <;> simp only [leFr, leFb, leHp, V.ren, V.renL, V.bd, V.bdL, allL, lt, Go.Ab.get, hget, List.map_cons, List.map_nil, List.length_cons, List.length_nil, List.length_append, List.getElem?_cons_zero, List.getElem?_cons_succ, List.getElem?_nil, Option.join_some, Option.join_none, List.getD_cons_zero, List.getD_cons_succ, List.getD_nil, Nat.reduceAdd, Nat.reduceLT, Nat.reduceEqDiff, Nat.zero_add, reduceIte, if_true, if_false, and_true, true_and, renL_vcells, allL_vcells, renL_pv, leBlk_some, eq_self, true_or, or_true, reduceCtorEq, false_or, c0])) (rows ts [] rfl rfl)
theorem idxF_ge {α : Type} (p : α → Bool) : ∀ (ts : List α) (i : Nat), decide (idxF p ts i ≥ 0) = ts.any p
  | [], _ => rfl
  | t :: ts, i => by
    simp only [idxF, List.any_cons]
    by_cases h : p t = true
    · simp only [h, if_true, Bool.true_or, decide_eq_true_eq]; omega
    · simp only [h, Bool.false_or, Bool.false_eq_true, if_false]; exact idxF_ge p ts (i + 1)
theorem hasT_ok (fid : FuncId) (caps : List PV) (p : Ty → Bool) (ts : List Ty) (hp : ∀ t ∈ ts, PCall Try.prog fid ([Ty.enc t] ++ caps) (bb (p t))) : PCall Try.prog 68 [.list 3 (encL ts), .fn fid caps] (bb (ts.any p)) := by
  have h := idxT_ok fid caps p ts hp
  refine PCall.intro (ps := [bb (ts.any p)]) fn68 (by simp) ?_
  unfold ac68
  simp only [argFr]
  (repeat' (first | ((first | (with_reducible refine aops_call fun C hC => ?_) | (with_reducible refine aopsD_call fun C hC => ?_) | ((with_reducible intro C hC); (with_reducible refine ax_call_mp ?_))); (first | (simp only [go_sem, idxF_ge]; (first | ((with_reducible apply ACall.pure0 [] (h)); (focus (exact vwA)))))); (simp only [PV.scal, PV.scalL, if_true, Bool.and_true, Bool.and_false, Bool.false_and, Bool.true_and, frz, List.map_nil, Bool.false_eq_true, if_false, ite_self, idxF_ge]); ((with_reducible first | refine finA hC ?_ | refine finD hC ?_); clear hC C)) | ((with_reducible first | refine aops_cons' fun C hC => ?_ | refine aopsD_cons' fun C hC => ?_ | intro C hC); simp only [go_sem, idxF_ge]; ((with_reducible first | refine finA hC ?_ | refine finD hC ?_); clear hC C)) | (with_reducible first | refine awp_seq_k fun K hK => ?_ | refine awp_reg_k fun K hK => ?_ | refine awp_dreg_k fun K hK => ?_ | (refine aops_nil ?_; refine hK _ _ ?_; try clear hK K) | (refine aopsD_nil ?_; refine hK _ _ _ ?_ ?_; (focus kernel_rfl); try clear hK K) | (refine thn_normal ?_; refine hK _ _ ?_; try clear hK K) | refine catch_normal ?_ | refine awp_skip_k ?_ | refine awp_ret_k ?_ | refine awp_exit_k ?_ | refine awp_block_k ?_ | (refine thn_exit ?_; try clear hK K) | (refine thn_ret ?_; try clear hK K) | refine catch_ret ?_ | refine catch_exit ?_ | (refine catch_other ?_ ?_; focus decide)) | ((with_reducible first | apply aops_guard' | apply aopsD_guard' | apply awp_cond_g); focus (simp only [go_sem, idxF_ge]; exact rfl)) | (with_reducible first | refine gk_tt ?_ | refine gk_ff ?_ | refine ck_t ?_ | refine ck_f ?_) | ((with_reducible first | refine gk_tf ?_ | refine gk_ft ?_ | refine gk_u ?_ | refine gk_u' ?_); first | (intro _ e; (first | rw [put_some] at e | rw [put_none] at e); subst e) | (intro _ _ e e'; (first | rw [put_some] at e | rw [put_none] at e); subst e; subst e'))))
  (refine retP_ret (List.range 40) rfl ?_; exact vwA)
end Go.Proofs.Ytiediojibljpiaa
/- Types: equality. -/
set_option maxRecDepth 10000
set_option linter.unusedSimpArgs false
set_option linter.unusedVariables false
namespace Go.Proofs.Ytiediojibljpiaa
open Go Go.Ab
mutual
def eqT : Ty → Ty → Bool
  | .mk k i ss, .mk k' i' ss' => if k == k' then if i == i' then eqTL ss ss' else false else false
def eqTL : List Ty → List Ty → Bool
  | [], [] => true
  | a :: xs, b :: ys => if eqT a b then eqTL xs ys else false
  | [], _ :: _ => false
  | _ :: _, [] => false
end
mutual
theorem eqT_iff : ∀ a b : Ty, eqT a b = true ↔ a = b
  | .mk k i ss, .mk k' i' ss' => by
    simp only [eqT, Ty.mk.injEq]
    by_cases h : k = k'
    · by_cases h2 : i = i'
      · simp [h, h2, eqTL_iff ss ss']
      · simp [h, h2]
    · simp [h]
theorem eqTL_iff : ∀ a b : List Ty, eqTL a b = true ↔ a = b
  | [], [] => by simp [eqTL]
  | a :: xs, b :: ys => by
    simp only [eqTL, List.cons.injEq]
    by_cases h : eqT a b = true
    · have e := (eqT_iff a b).1 h
      rw [if_pos h, eqTL_iff xs ys]; simp [e]
    · have : ¬ a = b := fun e => h ((eqT_iff a b).2 e)
      simp [h, this]
  | [], b :: ys => by simp [eqTL]
  | a :: xs, [] => by simp [eqTL]
end
theorem eqTL_len {xs ys : List Ty} (h : ((xs.length : Int) != (ys.length : Int)) = true) : eqTL xs ys = false := by
  cases he : eqTL xs ys with
  | false => rfl
  | true => have := (eqTL_iff xs ys).1 he; subst this; simp at h
set_option maxHeartbeats 1000000 in
theorem eqf_ok (xs ys : List Ty) (hp : ∀ a ∈ xs, ∀ b : Ty, PCall Try.prog 16 [a.enc, b.enc] (bb (eqT a b))) : PCall Try.prog 50 [.list 3 (encL xs), .list 3 (encL ys), .fn 16 []] (bb (eqTL xs ys)) := by
  refine PCall.intro' (ps := [bb (eqTL xs ys)]) fn50 (by simp) fun hok => ?_
  have hss : xs.length ≤ 1099511627776 := by
    simp only [PV.okL, PV.ok, encL_len, big] at hok; exact hok.1.1
  clear hok
  unfold ac50
  simp only [argFr]
  cases hlen : ((xs.length : Int) != (ys.length : Int)) with
  | true =>
    (repeat' (first | ((with_reducible first | refine aops_cons' fun C hC => ?_ | refine aopsD_cons' fun C hC => ?_ | intro C hC); simp only [go_sem, encL_len, hlen]; ((with_reducible first | refine finA hC ?_ | refine finD hC ?_); clear hC C)) | (with_reducible first | refine awp_seq_k fun K hK => ?_ | refine awp_reg_k fun K hK => ?_ | refine awp_dreg_k fun K hK => ?_ | (refine aops_nil ?_; refine hK _ _ ?_; try clear hK K) | (refine aopsD_nil ?_; refine hK _ _ _ ?_ ?_; (focus kernel_rfl); try clear hK K) | (refine thn_normal ?_; refine hK _ _ ?_; try clear hK K) | refine catch_normal ?_ | refine awp_skip_k ?_ | refine awp_ret_k ?_ | refine awp_exit_k ?_ | refine awp_block_k ?_ | (refine thn_exit ?_; try clear hK K) | (refine thn_ret ?_; try clear hK K) | refine catch_ret ?_ | refine catch_exit ?_ | (refine catch_other ?_ ?_; focus decide)) | ((with_reducible first | apply aops_guard' | apply aopsD_guard' | apply awp_cond_g); focus (simp only [go_sem, encL_len, hlen]; exact rfl)) | (with_reducible first | refine gk_tt ?_ | refine gk_ff ?_ | refine ck_t ?_ | refine ck_f ?_) | ((with_reducible first | refine gk_tf ?_ | refine gk_ft ?_ | refine gk_u ?_ | refine gk_u' ?_); first | (intro _ e; (first | rw [put_some] at e | rw [put_none] at e); subst e) | (intro _ _ e e'; (first | rw [put_some] at e | rw [put_none] at e); subst e; subst e'))))
    rw [eqTL_len hlen]
    (refine retP_ret (List.range 40) rfl ?_; exact vwA)
  | false =>
    have hl : xs.length = ys.length := by
      have : (xs.length : Int) = ys.length := by simpa using hlen
      omega
    (repeat' (first | ((with_reducible first | refine aops_cons' fun C hC => ?_ | refine aopsD_cons' fun C hC => ?_ | intro C hC); simp only [go_sem, encL_len, hlen]; ((with_reducible first | refine finA hC ?_ | refine finD hC ?_); clear hC C)) | (with_reducible first | refine awp_seq_k fun K hK => ?_ | refine awp_reg_k fun K hK => ?_ | refine awp_dreg_k fun K hK => ?_ | (refine aops_nil ?_; refine hK _ _ ?_; try clear hK K) | (refine aopsD_nil ?_; refine hK _ _ _ ?_ ?_; (focus kernel_rfl); try clear hK K) | (refine thn_normal ?_; refine hK _ _ ?_; try clear hK K) | refine catch_normal ?_ | refine awp_skip_k ?_ | refine awp_ret_k ?_ | refine awp_exit_k ?_ | refine awp_block_k ?_ | (refine thn_exit ?_; try clear hK K) | (refine thn_ret ?_; try clear hK K) | refine catch_ret ?_ | refine catch_exit ?_ | (refine catch_other ?_ ?_; focus decide)) | ((with_reducible first | apply aops_guard' | apply aopsD_guard' | apply awp_cond_g); focus (simp only [go_sem, encL_len, hlen]; exact rfl)) | (with_reducible first | refine gk_tt ?_ | refine gk_ff ?_ | refine ck_t ?_ | refine ck_f ?_) | ((with_reducible first | refine gk_tf ?_ | refine gk_ft ?_ | refine gk_u ?_ | refine gk_u' ?_); first | (intro _ e; (first | rw [put_some] at e | rw [put_none] at e); subst e) | (intro _ _ e e'; (first | rw [put_some] at e | rw [put_none] at e); subst e; subst e'))))
    have rows : ∀ (rest rest' pre pre' : List Ty), pre ++ rest = xs → pre' ++ rest' = ys → pre.length = pre'.length → eqTL xs ys = eqTL rest rest' → loopN (awp Try.prog ac50_l0) (catch_ 0 (thn K (retP [RV.tmp 6] [bb (eqTL xs ys)]))) (rest.length + 1)
       [(17, .pv (ii pre.length)), (16, .pv (ii xs.length)), (15, .pv (.list 3 (encL xs))), (2, .pv (.fn 16 [])), (1, .pv (.list 3 (encL ys))), (0, .pv (.list 3 (encL xs)))] [] := by
      intro rest
      induction rest with
      | nil =>
        intro rest' pre pre' hpre hpre' hll he
        have hpre : pre = xs := by simpa using hpre
        have hr : rest' = [] := by
          have h1 := congrArg List.length hpre'
          simp only [List.length_append] at h1
          subst hpre
          exact List.eq_nil_of_length_eq_zero (by omega)
        subst hpre; subst hr
        refine loopN_k fun K1 hK1 => ?_
        unfold ac50_l0
        (repeat' (first | ((with_reducible first | refine aops_cons' fun C hC => ?_ | refine aopsD_cons' fun C hC => ?_ | intro C hC); simp only [go_sem, lt_end]; ((with_reducible first | refine finA hC ?_ | refine finD hC ?_); clear hC C)) | (with_reducible first | refine awp_seq_k fun K hK => ?_ | refine awp_reg_k fun K hK => ?_ | refine awp_dreg_k fun K hK => ?_ | (refine aops_nil ?_; refine hK _ _ ?_; try clear hK K) | (refine aopsD_nil ?_; refine hK _ _ _ ?_ ?_; (focus kernel_rfl); try clear hK K) | (refine thn_normal ?_; refine hK _ _ ?_; try clear hK K) | refine catch_normal ?_ | refine awp_skip_k ?_ | refine awp_ret_k ?_ | refine awp_exit_k ?_ | refine awp_block_k ?_ | (refine thn_exit ?_; try clear hK K) | (refine thn_ret ?_; try clear hK K) | refine catch_ret ?_ | refine catch_exit ?_ | (refine catch_other ?_ ?_; focus decide)) | ((with_reducible first | apply aops_guard' | apply aopsD_guard' | apply awp_cond_g); focus (simp only [go_sem, lt_end]; exact rfl)) | (with_reducible first | refine gk_tt ?_ | refine gk_ff ?_ | refine ck_t ?_ | refine ck_f ?_) | ((with_reducible first | refine gk_tf ?_ | refine gk_ft ?_ | refine gk_u ?_ | refine gk_u' ?_); first | (intro _ e; (first | rw [put_some] at e | rw [put_none] at e); subst e) | (intro _ _ e e'; (first | rw [put_some] at e | rw [put_none] at e); subst e; subst e'))))
        rw [he]
        (refine retP_ret (List.range 40) rfl ?_; (try simp only [eqTL, if_true, if_false, Bool.false_eq_true, Bool.not_true, Bool.not_false]); exact vwA)
      | cons t rest ih =>
        intro rest' pre pre' hpre hpre' hll he
        cases rest' with
        | nil =>
          have h1 := congrArg List.length hpre
          have h2 := congrArg List.length hpre'
          simp at h1 h2; omega
        | cons u rest' =>
        have hlt : decide ((pre.length : Int) < (xs.length : Int)) = true := by subst hpre; exact lt_app _ _ _
        have hat : (encL xs)[pre.length]? = some t.enc := by subst hpre; exact encL_at _ _ _
        have hat' : (encL ys)[pre.length]? = some u.enc := by rw [hll]; subst hpre'; exact encL_at _ _ _
        have hb : pre.length + 1 ≤ big := by have := congrArg List.length hpre; simp at this; unfold big; omega
        have hc := hp t (by subst hpre; simp) u
        refine loopN_k fun K1 hK1 => ?_
        unfold ac50_l0
        cases hpt : eqT t u with
        | false =>
          rw [hpt] at hc
          (repeat' (first | ((first | (with_reducible refine aops_call fun C hC => ?_) | (with_reducible refine aopsD_call fun C hC => ?_) | ((with_reducible intro C hC); (with_reducible refine ax_call_mp ?_))); (first | (simp only [go_sem, hlt, hat, hat', cells_enc, pcells_enc, Ty.tc]; (first | ((with_reducible apply ACall.pure0 [] (hc)); (focus (exact vwA)))))); (simp only [PV.scal, PV.scalL, if_true, Bool.and_true, Bool.and_false, Bool.false_and, Bool.true_and, frz, List.map_nil, Bool.false_eq_true, if_false, ite_self, hlt, hat, hat', cells_enc, pcells_enc, Ty.tc]); ((with_reducible first | refine finA hC ?_ | refine finD hC ?_); clear hC C)) | ((with_reducible first | refine aops_cons' fun C hC => ?_ | refine aopsD_cons' fun C hC => ?_ | intro C hC); simp only [go_sem, hlt, hat, hat', cells_enc, pcells_enc, Ty.tc]; ((with_reducible first | refine finA hC ?_ | refine finD hC ?_); clear hC C)) | (with_reducible first | refine awp_seq_k fun K hK => ?_ | refine awp_reg_k fun K hK => ?_ | refine awp_dreg_k fun K hK => ?_ | (refine aops_nil ?_; refine hK _ _ ?_; try clear hK K) | (refine aopsD_nil ?_; refine hK _ _ _ ?_ ?_; (focus kernel_rfl); try clear hK K) | (refine thn_normal ?_; refine hK _ _ ?_; try clear hK K) | refine catch_normal ?_ | refine awp_skip_k ?_ | refine awp_ret_k ?_ | refine awp_exit_k ?_ | refine awp_block_k ?_ | (refine thn_exit ?_; try clear hK K) | (refine thn_ret ?_; try clear hK K) | refine catch_ret ?_ | refine catch_exit ?_ | (refine catch_other ?_ ?_; focus decide)) | ((with_reducible first | apply aops_guard' | apply aopsD_guard' | apply awp_cond_g); focus (simp only [go_sem, hlt, hat, hat', cells_enc, pcells_enc, Ty.tc]; exact rfl)) | (with_reducible first | refine gk_tt ?_ | refine gk_ff ?_ | refine ck_t ?_ | refine ck_f ?_) | ((with_reducible first | refine gk_tf ?_ | refine gk_ft ?_ | refine gk_u ?_ | refine gk_u' ?_); first | (intro _ e; (first | rw [put_some] at e | rw [put_none] at e); subst e) | (intro _ _ e e'; (first | rw [put_some] at e | rw [put_none] at e); subst e; subst e'))))
          simp only [eqTL, hpt, Bool.false_eq_true, if_false] at he
          rw [he]
          (refine retP_ret (List.range 40) rfl ?_; exact vwA)
        | true =>
          rw [hpt] at hc
          (repeat' (first | ((first | (with_reducible refine aops_call fun C hC => ?_) | (with_reducible refine aopsD_call fun C hC => ?_) | ((with_reducible intro C hC); (with_reducible refine ax_call_mp ?_))); (first | (simp only [go_sem, hlt, hat, hat', cells_enc, pcells_enc, Ty.tc]; (first | ((with_reducible apply ACall.pure0 [] (hc)); (focus (exact vwA)))))); (simp only [PV.scal, PV.scalL, if_true, Bool.and_true, Bool.and_false, Bool.false_and, Bool.true_and, frz, List.map_nil, Bool.false_eq_true, if_false, ite_self, hlt, hat, hat', cells_enc, pcells_enc, Ty.tc]); ((with_reducible first | refine finA hC ?_ | refine finD hC ?_); clear hC C)) | ((with_reducible first | refine aops_cons' fun C hC => ?_ | refine aopsD_cons' fun C hC => ?_ | intro C hC); simp only [go_sem, hlt, hat, hat', cells_enc, pcells_enc, Ty.tc]; ((with_reducible first | refine finA hC ?_ | refine finD hC ?_); clear hC C)) | (with_reducible first | refine awp_seq_k fun K hK => ?_ | refine awp_reg_k fun K hK => ?_ | refine awp_dreg_k fun K hK => ?_ | (refine aops_nil ?_; refine hK _ _ ?_; try clear hK K) | (refine aopsD_nil ?_; refine hK _ _ _ ?_ ?_; (focus kernel_rfl); try clear hK K) | (refine thn_normal ?_; refine hK _ _ ?_; try clear hK K) | refine catch_normal ?_ | refine awp_skip_k ?_ | refine awp_ret_k ?_ | refine awp_exit_k ?_ | refine awp_block_k ?_ | (refine thn_exit ?_; try clear hK K) | (refine thn_ret ?_; try clear hK K) | refine catch_ret ?_ | refine catch_exit ?_ | (refine catch_other ?_ ?_; focus decide)) | ((with_reducible first | apply aops_guard' | apply aopsD_guard' | apply awp_cond_g); focus (simp only [go_sem, hlt, hat, hat', cells_enc, pcells_enc, Ty.tc]; exact rfl)) | (with_reducible first | refine gk_tt ?_ | refine gk_ff ?_ | refine ck_t ?_ | refine ck_f ?_) | ((with_reducible first | refine gk_tf ?_ | refine gk_ft ?_ | refine gk_u ?_ | refine gk_u' ?_); first | (intro _ e; (first | rw [put_some] at e | rw [put_none] at e); subst e) | (intro _ _ e e'; (first | rw [put_some] at e | rw [put_none] at e); subst e; subst e'))))
          have hw := wrapS (n := pre.length) (by unfold big at hb; omega)
          refine thn_normal ?_
          refine hK1 _ _ _ _ _ (LeB [] (by refine ⟨?_, ?_, ?_⟩ <;> simp only [leFr, leFb, leHp, V.ren, V.renL, V.bd, V.bdL, allL, lt, Go.Ab.get, hget, List.map_cons, List.map_nil, List.length_cons, List.length_nil, List.length_append, List.getElem?_cons_zero, List.getElem?_cons_succ, List.getElem?_nil, Option.join_some, Option.join_none, List.getD_cons_zero, List.getD_cons_succ, List.getD_nil, Nat.reduceAdd, Nat.reduceLT, Nat.reduceEqDiff, Nat.zero_add, reduceIte, if_true, if_false, and_true, true_and, renL_vcells, allL_vcells, renL_pv, leBlk_some, eq_self, true_or, or_true, reduceCtorEq, false_or, hw, List.length_append])) (ih rest' (pre ++ [t]) (pre' ++ [u]) (by simp [hpre]) (by simp [hpre']) (by simp [hll]) (by simpa [eqTL, hpt] using he))
    refine awp_loop_k _ (LeB [] (by refine ⟨?_, ?_, ?_⟩ <;> simp only [leFr, leFb, leHp, V.ren, V.renL, V.bd, V.bdL, allL, lt, Go.Ab.get, hget, List.map_cons, List.map_nil, List.length_cons, List.length_nil, List.length_append, List.getElem?_cons_zero, List.getElem?_cons_succ, List.getElem?_nil, Option.join_some, Option.join_none, List.getD_cons_zero, List.getD_cons_succ, List.getD_nil, Nat.reduceAdd, Nat.reduceLT, Nat.reduceEqDiff, Nat.zero_add, reduceIte, if_true, if_false, and_true, true_and, renL_vcells, allL_vcells, renL_pv, leBlk_some, eq_self, true_or, or_true, reduceCtorEq, false_or, c0])) (rows xs ys [] [] rfl rfl rfl rfl)
theorem eqT_eq (a b : Ty) : eqT a b = if a.kd == b.kd then if a.id == b.id then eqTL a.args b.args else false else false := by
  cases a; cases b; simp only [eqT]; rfl
set_option maxHeartbeats 1000000 in
theorem equal_ok : ∀ a b : Ty, PCall Try.prog 16 [a.enc, b.enc] (bb (eqT a b))
  | .mk k i ss, b => by
    have hrec : ∀ t ∈ ss, ∀ u, PCall Try.prog 16 [t.enc, u.enc] (bb (eqT t u)) := fun t ht u => equal_ok t u
    have hc := eqf_ok ss b.args hrec
    clear hrec
    rw [eqT_eq]
    refine PCall.intro (ps := [bb _]) fn16 (by simp) ?_
    unfold ac16
    simp only [argFr]
    (repeat' (first | ((first | (with_reducible refine aops_call fun C hC => ?_) | (with_reducible refine aopsD_call fun C hC => ?_) | ((with_reducible intro C hC); (with_reducible refine ax_call_mp ?_))); (first | (simp only [go_sem, cells_enc, tc_len, Ty.tc, Ty.kd, Ty.id, Ty.args]; (first | ((with_reducible apply ACall.pure0 [] (hc)); (focus (exact vwA)))))); (simp only [PV.scal, PV.scalL, if_true, Bool.and_true, Bool.and_false, Bool.false_and, Bool.true_and, frz, List.map_nil, Bool.false_eq_true, if_false, ite_self, cells_enc, tc_len, Ty.tc, Ty.kd, Ty.id, Ty.args]); ((with_reducible first | refine finA hC ?_ | refine finD hC ?_); clear hC C)) | ((with_reducible first | refine aops_cons' fun C hC => ?_ | refine aopsD_cons' fun C hC => ?_ | intro C hC); simp only [go_sem, cells_enc, tc_len, Ty.tc, Ty.kd, Ty.id, Ty.args]; ((with_reducible first | refine finA hC ?_ | refine finD hC ?_); clear hC C)) | (with_reducible first | refine awp_seq_k fun K hK => ?_ | refine awp_reg_k fun K hK => ?_ | refine awp_dreg_k fun K hK => ?_ | (refine aops_nil ?_; refine hK _ _ ?_; try clear hK K) | (refine aopsD_nil ?_; refine hK _ _ _ ?_ ?_; (focus kernel_rfl); try clear hK K) | (refine thn_normal ?_; refine hK _ _ ?_; try clear hK K) | refine catch_normal ?_ | refine awp_skip_k ?_ | refine awp_ret_k ?_ | refine awp_exit_k ?_ | refine awp_block_k ?_ | (refine thn_exit ?_; try clear hK K) | (refine thn_ret ?_; try clear hK K) | refine catch_ret ?_ | refine catch_exit ?_ | (refine catch_other ?_ ?_; focus decide)) | ((with_reducible first | apply aops_guard' | apply aopsD_guard' | apply awp_cond_g); focus (simp only [go_sem, cells_enc, tc_len, Ty.tc, Ty.kd, Ty.id, Ty.args]; exact rfl)) | (with_reducible first | refine gk_tt ?_ | refine gk_ff ?_ | refine ck_t ?_ | refine ck_f ?_) | ((with_reducible first | refine gk_tf ?_ | refine gk_ft ?_ | refine gk_u ?_ | refine gk_u' ?_); first | (intro _ e; (first | rw [put_some] at e | rw [put_none] at e); subst e) | (intro _ _ e e'; (first | rw [put_some] at e | rw [put_none] at e); subst e; subst e')) | ((with_reducible refine ck_s (fun h => ?_) (fun h => ?_)); all_goals ((try simp only [Bool.not_eq_true', Bool.not_eq_false'] at h); (try simp only [h, Bool.not_true, Bool.not_false]))) | ((with_reducible refine gk_s (fun h => ?_) (fun h => ?_)); all_goals ((try simp only [Bool.not_eq_true', Bool.not_eq_false'] at h); (try simp only [h, Bool.not_true, Bool.not_false])))))
    all_goals (refine retP_ret (List.range 40) rfl ?_; (try simp only [Ty.kd, Ty.id, Ty.args, *, if_true, if_false, Bool.false_eq_true, Bool.not_true, Bool.not_false]); exact vwA)
termination_by t => SizeOf.sizeOf t
decreasing_by
  have := List.sizeOf_lt_of_mem ht
  simp only [Ty.mk.sizeOf_spec]; omega
end Go.Proofs.Ytiediojibljpiaa
/- Types: Substitute; lists of integers. -/
set_option maxRecDepth 10000
set_option linter.unusedSimpArgs false
set_option linter.unusedVariables false
namespace Go.Proofs.Ytiediojibljpiaa
open Go Go.Ab
structure Bd where
  v : Int
  t : Ty
def Bd.enc (b : Bd) : PV := .agg [ii b.v, ii b.t.kd, ii b.t.id, .list 3 (encL b.t.args)]
def encB (bs : List Bd) : List PV := bs.map Bd.enc
theorem encB_len (ts : List Bd) : (encB ts).length = ts.length := by simp [encB]
theorem encB_at (ts us : List Bd) (t : Bd) : (encB (ts ++ t :: us))[ts.length]? = some t.enc := by simp [encB]
theorem pcells_bd (b : Bd) : b.enc.cells = [ii b.v, ii b.t.kd, ii b.t.id, .list 3 (encL b.t.args)] := rfl
theorem Vw_pbd {h : HF} {B : List Nat} (b : Bd) : Vw h B (.pv (.agg [ii b.v, ii b.t.kd, ii b.t.id, .list 3 (encL b.t.args)])) b.enc := .pv _
set_option maxHeartbeats 1000000 in
theorem idxB_ok (fid : FuncId) (caps : List PV) (p : Bd → Bool) (ts : List Bd) (hp : ∀ t ∈ ts, PCall Try.prog fid ([Bd.enc t] ++ caps) (bb (p t))) : PCall Try.prog 53 [.list 4 (encB ts), .fn fid caps] (ii (idxF p ts 0)) := by
  refine PCall.intro' (ps := [ii (idxF p ts 0)]) fn53 (by simp) fun hok => ?_
  have hss : ts.length ≤ 1099511627776 := by
    simp only [PV.okL, PV.ok, encB_len, big] at hok; exact hok.1.1
  clear hok
  unfold ac53
  simp only [argFr]
  (repeat' (first | ((with_reducible first | refine aops_cons' fun C hC => ?_ | refine aopsD_cons' fun C hC => ?_ | intro C hC); simp only [go_sem, encB_len]; ((with_reducible first | refine finA hC ?_ | refine finD hC ?_); clear hC C)) | (with_reducible first | refine awp_seq_k fun K hK => ?_ | refine awp_reg_k fun K hK => ?_ | refine awp_dreg_k fun K hK => ?_ | (refine aops_nil ?_; refine hK _ _ ?_; try clear hK K) | (refine aopsD_nil ?_; refine hK _ _ _ ?_ ?_; (focus kernel_rfl); try clear hK K) | (refine thn_normal ?_; refine hK _ _ ?_; try clear hK K) | refine catch_normal ?_ | refine awp_skip_k ?_ | refine awp_ret_k ?_ | refine awp_exit_k ?_ | refine awp_block_k ?_ | (refine thn_exit ?_; try clear hK K) | (refine thn_ret ?_; try clear hK K) | refine catch_ret ?_ | refine catch_exit ?_ | (refine catch_other ?_ ?_; focus decide)) | ((with_reducible first | apply aops_guard' | apply aopsD_guard' | apply awp_cond_g); focus (simp only [go_sem, encB_len]; exact rfl)) | (with_reducible first | refine gk_tt ?_ | refine gk_ff ?_ | refine ck_t ?_ | refine ck_f ?_) | ((with_reducible first | refine gk_tf ?_ | refine gk_ft ?_ | refine gk_u ?_ | refine gk_u' ?_); first | (intro _ e; (first | rw [put_some] at e | rw [put_none] at e); subst e) | (intro _ _ e e'; (first | rw [put_some] at e | rw [put_none] at e); subst e; subst e'))))
  have rows : ∀ (rest pre : List Bd), pre ++ rest = ts → idxF p ts 0 = idxF p rest pre.length → loopN (awp Try.prog ac53_l0) (catch_ 0 (thn K (retP [RV.tmp 4] [ii (idxF p ts 0)]))) (rest.length + 1)
     [(8, .pv (ii pre.length)), (7, .pv (ii ts.length)), (1, .pv (.fn fid caps)), (0, .pv (.list 4 (encB ts)))] [] := by
    intro rest
    induction rest with
    | nil =>
      intro pre hpre hi
      have hpre : pre = ts := by simpa using hpre
      subst hpre
      refine loopN_k fun K1 hK1 => ?_
      unfold ac53_l0
      (repeat' (first | ((with_reducible first | refine aops_cons' fun C hC => ?_ | refine aopsD_cons' fun C hC => ?_ | intro C hC); simp only [go_sem, lt_end]; ((with_reducible first | refine finA hC ?_ | refine finD hC ?_); clear hC C)) | (with_reducible first | refine awp_seq_k fun K hK => ?_ | refine awp_reg_k fun K hK => ?_ | refine awp_dreg_k fun K hK => ?_ | (refine aops_nil ?_; refine hK _ _ ?_; try clear hK K) | (refine aopsD_nil ?_; refine hK _ _ _ ?_ ?_; (focus kernel_rfl); try clear hK K) | (refine thn_normal ?_; refine hK _ _ ?_; try clear hK K) | refine catch_normal ?_ | refine awp_skip_k ?_ | refine awp_ret_k ?_ | refine awp_exit_k ?_ | refine awp_block_k ?_ | (refine thn_exit ?_; try clear hK K) | (refine thn_ret ?_; try clear hK K) | refine catch_ret ?_ | refine catch_exit ?_ | (refine catch_other ?_ ?_; focus decide)) | ((with_reducible first | apply aops_guard' | apply aopsD_guard' | apply awp_cond_g); focus (simp only [go_sem, lt_end]; exact rfl)) | (with_reducible first | refine gk_tt ?_ | refine gk_ff ?_ | refine ck_t ?_ | refine ck_f ?_) | ((with_reducible first | refine gk_tf ?_ | refine gk_ft ?_ | refine gk_u ?_ | refine gk_u' ?_); first | (intro _ e; (first | rw [put_some] at e | rw [put_none] at e); subst e) | (intro _ _ e e'; (first | rw [put_some] at e | rw [put_none] at e); subst e; subst e'))))
      rw [hi]
      (refine retP_ret (List.range 40) rfl ?_; (try simp only [idxF, if_true, if_false, Bool.false_eq_true, Bool.not_true, Bool.not_false]); exact vwA)
    | cons t rest ih =>
      intro pre hpre hi
      have hlt : decide ((pre.length : Int) < (ts.length : Int)) = true := by subst hpre; exact lt_app _ _ _
      have hat : (encB ts)[pre.length]? = some t.enc := by subst hpre; exact encB_at _ _ _
      have hb : pre.length + 1 ≤ big := by have := congrArg List.length hpre; simp at this; unfold big; omega
      have hc := hp t (by subst hpre; simp)
      refine loopN_k fun K1 hK1 => ?_
      unfold ac53_l0
      cases hpt : p t with
      | true =>
        rw [hpt] at hc
        (repeat' (first | ((first | (with_reducible refine aops_call fun C hC => ?_) | (with_reducible refine aopsD_call fun C hC => ?_) | ((with_reducible intro C hC); (with_reducible refine ax_call_mp ?_))); (first | (simp only [go_sem, hlt, hat, pcells_bd]; (first | ((with_reducible refine ACall.pure [] (.pv _) ?_ (hc) ?_); (focus (exact vwA)))))); (simp only [PV.scal, PV.scalL, if_true, Bool.and_true, Bool.and_false, Bool.false_and, Bool.true_and, frz, List.map_nil, Bool.false_eq_true, if_false, ite_self, hlt, hat, pcells_bd]); ((with_reducible first | refine finA hC ?_ | refine finD hC ?_); clear hC C)) | ((with_reducible first | refine aops_cons' fun C hC => ?_ | refine aopsD_cons' fun C hC => ?_ | intro C hC); simp only [go_sem, hlt, hat, pcells_bd]; ((with_reducible first | refine finA hC ?_ | refine finD hC ?_); clear hC C)) | (with_reducible first | refine awp_seq_k fun K hK => ?_ | refine awp_reg_k fun K hK => ?_ | refine awp_dreg_k fun K hK => ?_ | (refine aops_nil ?_; refine hK _ _ ?_; try clear hK K) | (refine aopsD_nil ?_; refine hK _ _ _ ?_ ?_; (focus kernel_rfl); try clear hK K) | (refine thn_normal ?_; refine hK _ _ ?_; try clear hK K) | refine catch_normal ?_ | refine awp_skip_k ?_ | refine awp_ret_k ?_ | refine awp_exit_k ?_ | refine awp_block_k ?_ | (refine thn_exit ?_; try clear hK K) | (refine thn_ret ?_; try clear hK K) | refine catch_ret ?_ | refine catch_exit ?_ | (refine catch_other ?_ ?_; focus decide)) | ((with_reducible first | apply aops_guard' | apply aopsD_guard' | apply awp_cond_g); focus (simp only [go_sem, hlt, hat, pcells_bd]; exact rfl)) | (with_reducible first | refine gk_tt ?_ | refine gk_ff ?_ | refine ck_t ?_ | refine ck_f ?_) | ((with_reducible first | refine gk_tf ?_ | refine gk_ft ?_ | refine gk_u ?_ | refine gk_u' ?_); first | (intro _ e; (first | rw [put_some] at e | rw [put_none] at e); subst e) | (intro _ _ e e'; (first | rw [put_some] at e | rw [put_none] at e); subst e; subst e'))))
        simp only [idxF, hpt, if_true] at hi
        rw [hi]
        (refine retP_ret (List.range 40) rfl ?_; exact vwA)
      | false =>
        rw [hpt] at hc
        (repeat' (first | ((first | (with_reducible refine aops_call fun C hC => ?_) | (with_reducible refine aopsD_call fun C hC => ?_) | ((with_reducible intro C hC); (with_reducible refine ax_call_mp ?_))); (first | (simp only [go_sem, hlt, hat, pcells_bd]; (first | ((with_reducible refine ACall.pure [] (.pv _) ?_ (hc) ?_); (focus (exact vwA)))))); (simp only [PV.scal, PV.scalL, if_true, Bool.and_true, Bool.and_false, Bool.false_and, Bool.true_and, frz, List.map_nil, Bool.false_eq_true, if_false, ite_self, hlt, hat, pcells_bd]); ((with_reducible first | refine finA hC ?_ | refine finD hC ?_); clear hC C)) | ((with_reducible first | refine aops_cons' fun C hC => ?_ | refine aopsD_cons' fun C hC => ?_ | intro C hC); simp only [go_sem, hlt, hat, pcells_bd]; ((with_reducible first | refine finA hC ?_ | refine finD hC ?_); clear hC C)) | (with_reducible first | refine awp_seq_k fun K hK => ?_ | refine awp_reg_k fun K hK => ?_ | refine awp_dreg_k fun K hK => ?_ | (refine aops_nil ?_; refine hK _ _ ?_; try clear hK K) | (refine aopsD_nil ?_; refine hK _ _ _ ?_ ?_; (focus kernel_rfl); try clear hK K) | (refine thn_normal ?_; refine hK _ _ ?_; try clear hK K) | refine catch_normal ?_ | refine awp_skip_k ?_ | refine awp_ret_k ?_ | refine awp_exit_k ?_ | refine awp_block_k ?_ | (refine thn_exit ?_; try clear hK K) | (refine thn_ret ?_; try clear hK K) | refine catch_ret ?_ | refine catch_exit ?_ | (refine catch_other ?_ ?_; focus decide)) | ((with_reducible first | apply aops_guard' | apply aopsD_guard' | apply awp_cond_g); focus (simp only [go_sem, hlt, hat, pcells_bd]; exact rfl)) | (with_reducible first | refine gk_tt ?_ | refine gk_ff ?_ | refine ck_t ?_ | refine ck_f ?_) | ((with_reducible first | refine gk_tf ?_ | refine gk_ft ?_ | refine gk_u ?_ | refine gk_u' ?_); first | (intro _ e; (first | rw [put_some] at e | rw [put_none] at e); subst e) | (intro _ _ e e'; (first | rw [put_some] at e | rw [put_none] at e); subst e; subst e'))))
        have hw := wrapS (n := pre.length) (by unfold big at hb; omega)
        refine thn_normal ?_
        refine hK1 _ _ _ _ _ (LeB [] (by refine ⟨?_, ?_, ?_⟩ <;> simp only [leFr, leFb, leHp, V.ren, V.renL, V.bd, V.bdL, allL, lt, Go.Ab.get, hget, List.map_cons, List.map_nil, List.length_cons, List.length_nil, List.length_append, List.getElem?_cons_zero, List.getElem?_cons_succ, List.getElem?_nil, Option.join_some, Option.join_none, List.getD_cons_zero, List.getD_cons_succ, List.getD_nil, Nat.reduceAdd, Nat.reduceLT, Nat.reduceEqDiff, Nat.zero_add, reduceIte, if_true, if_false, and_true, true_and, renL_vcells, allL_vcells, renL_pv, leBlk_some, eq_self, true_or, or_true, reduceCtorEq, false_or, hw, List.length_append])) (ih (pre ++ [t]) (by simp [hpre]) (by simpa [idxF, hpt] using hi))
  refine awp_loop_k _ (LeB [] (by refine ⟨?_, ?_, ?_⟩ <;> simp only [leFr, leFb, leHp, V.ren, V.renL, V.bd, V.bdL, allL, lt, Go.Ab.get, hget, List.map_cons, List.map_nil, List.length_cons, List.length_nil, List.length_append, List.getElem?_cons_zero, List.getElem?_cons_succ, List.getElem?_nil, Option.join_some, Option.join_none, List.getD_cons_zero, List.getD_cons_succ, List.getD_nil, Nat.reduceAdd, Nat.reduceLT, Nat.reduceEqDiff, Nat.zero_add, reduceIte, if_true, if_false, and_true, true_and, renL_vcells, allL_vcells, renL_pv, leBlk_some, eq_self, true_or, or_true, reduceCtorEq, false_or, c0])) (rows ts [] rfl rfl)
theorem idxF_spec {α : Type} (p : α → Bool) : ∀ (xs : List α) (i : Nat), (idxF p xs i = -1 ∧ ∀ x ∈ xs, p x = false) ∨ ∃ pre b post, xs = pre ++ b :: post ∧ p b = true ∧ idxF p xs i = ((i + pre.length : Nat) : Int) ∧ ∀ x ∈ pre, p x = false
  | [], i => .inl ⟨rfl, by simp⟩
  | x :: xs, i => by
    by_cases h : p x = true
    · exact .inr ⟨[], x, xs, rfl, h, by simp [idxF, h], by simp⟩
    · have h : p x = false := by simpa using h
      rcases idxF_spec p xs (i + 1) with ⟨e, hn⟩ | ⟨pre, b, post, rfl, hb, e, hn⟩
      · refine .inl ⟨by simp only [idxF, h, Bool.false_eq_true, if_false]; exact e, fun y hy => ?_⟩
        rcases List.mem_cons.1 hy with rfl | hy
        · exact h
        · exact hn y hy
      · refine .inr ⟨x :: pre, b, post, rfl, hb, ?_, fun y hy => ?_⟩
        · simp only [idxF, h, Bool.false_eq_true, if_false, e, List.length_cons]
          rw [show i + 1 + pre.length = i + (pre.length + 1) by omega]
        · rcases List.mem_cons.1 hy with rfl | hy
          · exact h
          · exact hn y hy
def findB : List Bd → Int → Option Ty
  | [], _ => none
  | b :: bs, id => if b.v == id then some b.t else findB bs id
theorem findB_none {id : Int} : ∀ {bs : List Bd}, (∀ x ∈ bs, (x.v == id) = false) → findB bs id = none
  | [], _ => rfl
  | b :: bs, h => by simp only [findB, h b (by simp), Bool.false_eq_true, if_false]; exact findB_none fun x hx => h x (by simp [hx])
theorem findB_some {id : Int} {b : Bd} {post : List Bd} (hb : (b.v == id) = true) : ∀ {pre : List Bd}, (∀ x ∈ pre, (x.v == id) = false) → findB (pre ++ b :: post) id = some b.t
  | [], _ => by simp only [List.nil_append, findB, hb, if_true]
  | x :: pre, h => by simp only [List.cons_append, findB, h x (by simp), Bool.false_eq_true, if_false]; exact findB_some hb fun y hy => h y (by simp [hy])
def subG (s : List Bd) (u : Ty) : Ty × Bool := if u.kd == 1 then (match findB s u.id with | some t => (t, true) | none => (u, false)) else (u, false)
def subT (s : List Bd) (t : Ty) : Ty := mapT (subG s) t
theorem cap_ok (b : Bd) (u : Ty) : PCall Try.prog 54 ([b.enc] ++ [.rptr [ii u.kd, ii u.id, .list 3 (encL u.args)]]) (bb (b.v == u.id)) := by
  refine PCall.intro (ps := [bb (b.v == u.id)]) fn54 (by simp) ?_
  unfold ac54
  simp only [argFr, List.cons_append, List.nil_append, Bd.enc]
  (repeat' (first | ((with_reducible first | refine aops_cons' fun C hC => ?_ | refine aopsD_cons' fun C hC => ?_ | intro C hC); simp only [go_sem]; ((with_reducible first | refine finA hC ?_ | refine finD hC ?_); clear hC C)) | (with_reducible first | refine awp_seq_k fun K hK => ?_ | refine awp_reg_k fun K hK => ?_ | refine awp_dreg_k fun K hK => ?_ | (refine aops_nil ?_; refine hK _ _ ?_; try clear hK K) | (refine aopsD_nil ?_; refine hK _ _ _ ?_ ?_; (focus kernel_rfl); try clear hK K) | (refine thn_normal ?_; refine hK _ _ ?_; try clear hK K) | refine catch_normal ?_ | refine awp_skip_k ?_ | refine awp_ret_k ?_ | refine awp_exit_k ?_ | refine awp_block_k ?_ | (refine thn_exit ?_; try clear hK K) | (refine thn_ret ?_; try clear hK K) | refine catch_ret ?_ | refine catch_exit ?_ | (refine catch_other ?_ ?_; focus decide)) | ((with_reducible first | apply aops_guard' | apply aopsD_guard' | apply awp_cond_g); focus (simp only [go_sem]; exact rfl)) | (with_reducible first | refine gk_tt ?_ | refine gk_ff ?_ | refine ck_t ?_ | refine ck_f ?_) | ((with_reducible first | refine gk_tf ?_ | refine gk_ft ?_ | refine gk_u ?_ | refine gk_u' ?_); first | (intro _ e; (first | rw [put_some] at e | rw [put_none] at e); subst e) | (intro _ _ e e'; (first | rw [put_some] at e | rw [put_none] at e); subst e; subst e'))))
  (refine retP_ret (List.range 40) rfl ?_; exact vwA)
set_option maxHeartbeats 2000000 in
theorem subg_ok (s : List Bd) (u : Ty) : PCall Try.prog 52 ([u.enc] ++ [.rptr [.list 4 (encB s)]]) (.tup [(subG s u).1.enc, bb (subG s u).2]) := by
  refine PCall.intro (ps := [(subG s u).1.enc, bb (subG s u).2]) fn52 (by simp) ?_
  unfold ac52
  simp only [argFr, List.cons_append, List.nil_append]
  have hc := idxB_ok 54 [.rptr [ii u.kd, ii u.id, .list 3 (encL u.args)]] (fun b => b.v == u.id) s fun b _ => cap_ok b u
  cases hk : (u.kd == 1) with
  | false =>
    (repeat' (first | ((with_reducible first | refine aops_cons' fun C hC => ?_ | refine aopsD_cons' fun C hC => ?_ | intro C hC); simp only [go_sem, cells_enc, Ty.tc, bne, hk]; ((with_reducible first | refine finA hC ?_ | refine finD hC ?_); clear hC C)) | (with_reducible first | refine awp_seq_k fun K hK => ?_ | refine awp_reg_k fun K hK => ?_ | refine awp_dreg_k fun K hK => ?_ | (refine aops_nil ?_; refine hK _ _ ?_; try clear hK K) | (refine aopsD_nil ?_; refine hK _ _ _ ?_ ?_; (focus kernel_rfl); try clear hK K) | (refine thn_normal ?_; refine hK _ _ ?_; try clear hK K) | refine catch_normal ?_ | refine awp_skip_k ?_ | refine awp_ret_k ?_ | refine awp_exit_k ?_ | refine awp_block_k ?_ | (refine thn_exit ?_; try clear hK K) | (refine thn_ret ?_; try clear hK K) | refine catch_ret ?_ | refine catch_exit ?_ | (refine catch_other ?_ ?_; focus decide)) | ((with_reducible first | apply aops_guard' | apply aopsD_guard' | apply awp_cond_g); focus (simp only [go_sem, cells_enc, Ty.tc, bne, hk]; exact rfl)) | (with_reducible first | refine gk_tt ?_ | refine gk_ff ?_ | refine ck_t ?_ | refine ck_f ?_) | ((with_reducible first | refine gk_tf ?_ | refine gk_ft ?_ | refine gk_u ?_ | refine gk_u' ?_); first | (intro _ e; (first | rw [put_some] at e | rw [put_none] at e); subst e) | (intro _ _ e e'; (first | rw [put_some] at e | rw [put_none] at e); subst e; subst e'))))
    (refine retP_ret (List.range 40) rfl ?_; (try simp only [subG, hk, if_true, if_false, Bool.false_eq_true, Bool.not_true, Bool.not_false]); exact vwA)
  | true =>
    rcases idxF_spec (fun b : Bd => b.v == u.id) s 0 with ⟨e, hn⟩ | ⟨pre, b, post, rfl, hb, e, hn⟩
    · rw [e] at hc
      (repeat' (first | ((first | (with_reducible refine aops_call fun C hC => ?_) | (with_reducible refine aopsD_call fun C hC => ?_) | ((with_reducible intro C hC); (with_reducible refine ax_call_mp ?_))); (first | (simp only [go_sem, cells_enc, Ty.tc, bne, hk]; (first | ((with_reducible apply ACall.pure0 [0] (hc)); (focus (exact vwA)))))); (simp only [PV.scal, PV.scalL, if_true, Bool.and_true, Bool.and_false, Bool.false_and, Bool.true_and, frz, List.map_nil, Bool.false_eq_true, if_false, ite_self, go_sem, cells_enc, Ty.tc, bne, hk]); ((with_reducible first | refine finA hC ?_ | refine finD hC ?_); clear hC C)) | ((with_reducible first | refine aops_cons' fun C hC => ?_ | refine aopsD_cons' fun C hC => ?_ | intro C hC); simp only [go_sem, cells_enc, Ty.tc, bne, hk]; ((with_reducible first | refine finA hC ?_ | refine finD hC ?_); clear hC C)) | (with_reducible first | refine awp_seq_k fun K hK => ?_ | refine awp_reg_k fun K hK => ?_ | refine awp_dreg_k fun K hK => ?_ | (refine aops_nil ?_; refine hK _ _ ?_; try clear hK K) | (refine aopsD_nil ?_; refine hK _ _ _ ?_ ?_; (focus kernel_rfl); try clear hK K) | (refine thn_normal ?_; refine hK _ _ ?_; try clear hK K) | refine catch_normal ?_ | refine awp_skip_k ?_ | refine awp_ret_k ?_ | refine awp_exit_k ?_ | refine awp_block_k ?_ | (refine thn_exit ?_; try clear hK K) | (refine thn_ret ?_; try clear hK K) | refine catch_ret ?_ | refine catch_exit ?_ | (refine catch_other ?_ ?_; focus decide)) | ((with_reducible first | apply aops_guard' | apply aopsD_guard' | apply awp_cond_g); focus (simp only [go_sem, cells_enc, Ty.tc, bne, hk]; exact rfl)) | (with_reducible first | refine gk_tt ?_ | refine gk_ff ?_ | refine ck_t ?_ | refine ck_f ?_) | ((with_reducible first | refine gk_tf ?_ | refine gk_ft ?_ | refine gk_u ?_ | refine gk_u' ?_); first | (intro _ e; (first | rw [put_some] at e | rw [put_none] at e); subst e) | (intro _ _ e e'; (first | rw [put_some] at e | rw [put_none] at e); subst e; subst e'))))
      (refine retP_ret (List.range 40) rfl ?_; (try simp only [subG, hk, findB_none hn, if_true, if_false, Bool.false_eq_true, Bool.not_true, Bool.not_false]); exact vwA)
    · rw [e] at hc
      have hlt : decide (((0 + pre.length : Nat) : Int) < 0) = false := by simp
      have hat : (encB (pre ++ b :: post))[0 + pre.length]? = some b.enc := by rw [Nat.zero_add]; exact encB_at _ _ _
      have hcl := clone_ok b.t
      simp only [Nat.zero_add] at hlt hat hc
      (repeat' (first | ((first | (with_reducible refine aops_call fun C hC => ?_) | (with_reducible refine aopsD_call fun C hC => ?_) | ((with_reducible intro C hC); (with_reducible refine ax_call_mp ?_))); (first | (simp only [go_sem, cells_enc, Ty.tc, bne, hk, hlt, hat, pcells_bd]; (first | ((with_reducible apply ACall.pure0 [0] (hc)); (focus (exact vwA))) | ((with_reducible apply ACall.pure0 [] (hcl)); (focus (exact vwA)))))); (simp only [PV.scal, PV.scalL, if_true, Bool.and_true, Bool.and_false, Bool.false_and, Bool.true_and, frz, List.map_nil, Bool.false_eq_true, if_false, ite_self, go_sem, cells_enc, Ty.tc, bne, hk, hlt, hat, pcells_bd]); ((with_reducible first | refine finA hC ?_ | refine finD hC ?_); clear hC C)) | ((with_reducible first | refine aops_cons' fun C hC => ?_ | refine aopsD_cons' fun C hC => ?_ | intro C hC); simp only [go_sem, cells_enc, Ty.tc, bne, hk, hlt, hat, pcells_bd]; ((with_reducible first | refine finA hC ?_ | refine finD hC ?_); clear hC C)) | (with_reducible first | refine awp_seq_k fun K hK => ?_ | refine awp_reg_k fun K hK => ?_ | refine awp_dreg_k fun K hK => ?_ | (refine aops_nil ?_; refine hK _ _ ?_; try clear hK K) | (refine aopsD_nil ?_; refine hK _ _ _ ?_ ?_; (focus kernel_rfl); try clear hK K) | (refine thn_normal ?_; refine hK _ _ ?_; try clear hK K) | refine catch_normal ?_ | refine awp_skip_k ?_ | refine awp_ret_k ?_ | refine awp_exit_k ?_ | refine awp_block_k ?_ | (refine thn_exit ?_; try clear hK K) | (refine thn_ret ?_; try clear hK K) | refine catch_ret ?_ | refine catch_exit ?_ | (refine catch_other ?_ ?_; focus decide)) | ((with_reducible first | apply aops_guard' | apply aopsD_guard' | apply awp_cond_g); focus (simp only [go_sem, cells_enc, Ty.tc, bne, hk, hlt, hat, pcells_bd]; exact rfl)) | (with_reducible first | refine gk_tt ?_ | refine gk_ff ?_ | refine ck_t ?_ | refine ck_f ?_) | ((with_reducible first | refine gk_tf ?_ | refine gk_ft ?_ | refine gk_u ?_ | refine gk_u' ?_); first | (intro _ e; (first | rw [put_some] at e | rw [put_none] at e); subst e) | (intro _ _ e e'; (first | rw [put_some] at e | rw [put_none] at e); subst e; subst e'))))
      (refine retP_ret (List.range 40) rfl ?_; (try simp only [subG, hk, findB_some hb hn, if_true, if_false, Bool.false_eq_true, Bool.not_true, Bool.not_false]); exact vwA)
theorem scal_enc (t : Ty) : t.enc.scal = false := by cases t; rfl
theorem subst_ok (t : Ty) (s : List Bd) : PCall Try.prog 17 [t.enc, .list 4 (encB s)] (subT s t).enc := by
  have hm := map_ok 52 [.rptr [.list 4 (encB s)]] (subG s) (subg_ok s) t
  refine PCall.intro (ps := [(subT s t).enc]) fn17 (by simp) ?_
  unfold ac17
  simp only [argFr]
  (repeat' (first | ((first | (with_reducible refine aops_call fun C hC => ?_) | (with_reducible refine aopsD_call fun C hC => ?_) | ((with_reducible intro C hC); (with_reducible refine ax_call_mp ?_))); (first | (simp only [go_sem, cells_enc, Ty.tc, scal_enc]; (first | ((with_reducible apply ACall.pure0 [1] (hm)); (focus (exact vwA)))))); (simp only [PV.scal, PV.scalL, if_true, Bool.and_true, Bool.and_false, Bool.false_and, Bool.true_and, frz, List.map_nil, Bool.false_eq_true, if_false, ite_self, go_sem, cells_enc, Ty.tc, scal_enc]); ((with_reducible first | refine finA hC ?_ | refine finD hC ?_); clear hC C)) | ((with_reducible first | refine aops_cons' fun C hC => ?_ | refine aopsD_cons' fun C hC => ?_ | intro C hC); simp only [go_sem, cells_enc, Ty.tc, scal_enc]; ((with_reducible first | refine finA hC ?_ | refine finD hC ?_); clear hC C)) | (with_reducible first | refine awp_seq_k fun K hK => ?_ | refine awp_reg_k fun K hK => ?_ | refine awp_dreg_k fun K hK => ?_ | (refine aops_nil ?_; refine hK _ _ ?_; try clear hK K) | (refine aopsD_nil ?_; refine hK _ _ _ ?_ ?_; (focus kernel_rfl); try clear hK K) | (refine thn_normal ?_; refine hK _ _ ?_; try clear hK K) | refine catch_normal ?_ | refine awp_skip_k ?_ | refine awp_ret_k ?_ | refine awp_exit_k ?_ | refine awp_block_k ?_ | (refine thn_exit ?_; try clear hK K) | (refine thn_ret ?_; try clear hK K) | refine catch_ret ?_ | refine catch_exit ?_ | (refine catch_other ?_ ?_; focus decide)) | ((with_reducible first | apply aops_guard' | apply aopsD_guard' | apply awp_cond_g); focus (simp only [go_sem, cells_enc, Ty.tc, scal_enc]; exact rfl)) | (with_reducible first | refine gk_tt ?_ | refine gk_ff ?_ | refine ck_t ?_ | refine ck_f ?_) | ((with_reducible first | refine gk_tf ?_ | refine gk_ft ?_ | refine gk_u ?_ | refine gk_u' ?_); first | (intro _ e; (first | rw [put_some] at e | rw [put_none] at e); subst e) | (intro _ _ e e'; (first | rw [put_some] at e | rw [put_none] at e); subst e; subst e'))))
  (refine retP_ret (List.range 40) rfl ?_; (try simp only [subT, if_true, if_false, Bool.false_eq_true, Bool.not_true, Bool.not_false]); exact vwA)
def encI (xs : List Int) : List PV := xs.map fun x => ii x
theorem encI_len (ts : List Int) : (encI ts).length = ts.length := by simp [encI]
theorem encI_at (ts us : List Int) (t : Int) : (encI (ts ++ t :: us))[ts.length]? = some (ii t) := by simp [encI]
set_option maxHeartbeats 1000000 in
theorem idxI_ok (xs : List Int) (v : Int) : PCall Try.prog 85 [.list 1 (encI xs), ii v] (ii (idxF (fun x => v == x) xs 0)) := by
  refine PCall.intro' (ps := [ii (idxF (fun x => v == x) xs 0)]) fn85 (by simp) fun hok => ?_
  have hss : xs.length ≤ 1099511627776 := by
    simp only [PV.okL, PV.ok, encI_len, big] at hok; exact hok.1.1
  clear hok
  unfold ac85
  simp only [argFr]
  (repeat' (first | ((with_reducible first | refine aops_cons' fun C hC => ?_ | refine aopsD_cons' fun C hC => ?_ | intro C hC); simp only [go_sem, encI_len]; ((with_reducible first | refine finA hC ?_ | refine finD hC ?_); clear hC C)) | (with_reducible first | refine awp_seq_k fun K hK => ?_ | refine awp_reg_k fun K hK => ?_ | refine awp_dreg_k fun K hK => ?_ | (refine aops_nil ?_; refine hK _ _ ?_; try clear hK K) | (refine aopsD_nil ?_; refine hK _ _ _ ?_ ?_; (focus kernel_rfl); try clear hK K) | (refine thn_normal ?_; refine hK _ _ ?_; try clear hK K) | refine catch_normal ?_ | refine awp_skip_k ?_ | refine awp_ret_k ?_ | refine awp_exit_k ?_ | refine awp_block_k ?_ | (refine thn_exit ?_; try clear hK K) | (refine thn_ret ?_; try clear hK K) | refine catch_ret ?_ | refine catch_exit ?_ | (refine catch_other ?_ ?_; focus decide)) | ((with_reducible first | apply aops_guard' | apply aopsD_guard' | apply awp_cond_g); focus (simp only [go_sem, encI_len]; exact rfl)) | (with_reducible first | refine gk_tt ?_ | refine gk_ff ?_ | refine ck_t ?_ | refine ck_f ?_) | ((with_reducible first | refine gk_tf ?_ | refine gk_ft ?_ | refine gk_u ?_ | refine gk_u' ?_); first | (intro _ e; (first | rw [put_some] at e | rw [put_none] at e); subst e) | (intro _ _ e e'; (first | rw [put_some] at e | rw [put_none] at e); subst e; subst e'))))
  have rows : ∀ (rest pre : List Int), pre ++ rest = xs → idxF (fun x => v == x) xs 0 = idxF (fun x => v == x) rest pre.length → loopN (awp Try.prog ac85_l0) (catch_ 0 (thn K (retP [RV.tmp 4] [ii (idxF (fun x => v == x) xs 0)]))) (rest.length + 1)
     [(8, .pv (ii pre.length)), (7, .pv (ii xs.length)), (1, .pv (ii v)), (0, .pv (.list 1 (encI xs)))] [] := by
    intro rest
    induction rest with
    | nil =>
      intro pre hpre hi
      have hpre : pre = xs := by simpa using hpre
      subst hpre
      refine loopN_k fun K1 hK1 => ?_
      unfold ac85_l0
      (repeat' (first | ((with_reducible first | refine aops_cons' fun C hC => ?_ | refine aopsD_cons' fun C hC => ?_ | intro C hC); simp only [go_sem, lt_end]; ((with_reducible first | refine finA hC ?_ | refine finD hC ?_); clear hC C)) | (with_reducible first | refine awp_seq_k fun K hK => ?_ | refine awp_reg_k fun K hK => ?_ | refine awp_dreg_k fun K hK => ?_ | (refine aops_nil ?_; refine hK _ _ ?_; try clear hK K) | (refine aopsD_nil ?_; refine hK _ _ _ ?_ ?_; (focus kernel_rfl); try clear hK K) | (refine thn_normal ?_; refine hK _ _ ?_; try clear hK K) | refine catch_normal ?_ | refine awp_skip_k ?_ | refine awp_ret_k ?_ | refine awp_exit_k ?_ | refine awp_block_k ?_ | (refine thn_exit ?_; try clear hK K) | (refine thn_ret ?_; try clear hK K) | refine catch_ret ?_ | refine catch_exit ?_ | (refine catch_other ?_ ?_; focus decide)) | ((with_reducible first | apply aops_guard' | apply aopsD_guard' | apply awp_cond_g); focus (simp only [go_sem, lt_end]; exact rfl)) | (with_reducible first | refine gk_tt ?_ | refine gk_ff ?_ | refine ck_t ?_ | refine ck_f ?_) | ((with_reducible first | refine gk_tf ?_ | refine gk_ft ?_ | refine gk_u ?_ | refine gk_u' ?_); first | (intro _ e; (first | rw [put_some] at e | rw [put_none] at e); subst e) | (intro _ _ e e'; (first | rw [put_some] at e | rw [put_none] at e); subst e; subst e'))))
      rw [hi]
      (refine retP_ret (List.range 40) rfl ?_; (try simp only [idxF, if_true, if_false, Bool.false_eq_true, Bool.not_true, Bool.not_false]); exact vwA)
    | cons t rest ih =>
      intro pre hpre hi
      have hlt : decide ((pre.length : Int) < (xs.length : Int)) = true := by subst hpre; exact lt_app _ _ _
      have hat : (encI xs)[pre.length]? = some (ii t) := by subst hpre; exact encI_at _ _ _
      have hb : pre.length + 1 ≤ big := by have := congrArg List.length hpre; simp at this; unfold big; omega
      refine loopN_k fun K1 hK1 => ?_
      unfold ac85_l0
      cases hpt : (v == t) with
      | true =>
        (repeat' (first | ((with_reducible first | refine aops_cons' fun C hC => ?_ | refine aopsD_cons' fun C hC => ?_ | intro C hC); simp only [go_sem, hlt, hat, hpt]; ((with_reducible first | refine finA hC ?_ | refine finD hC ?_); clear hC C)) | (with_reducible first | refine awp_seq_k fun K hK => ?_ | refine awp_reg_k fun K hK => ?_ | refine awp_dreg_k fun K hK => ?_ | (refine aops_nil ?_; refine hK _ _ ?_; try clear hK K) | (refine aopsD_nil ?_; refine hK _ _ _ ?_ ?_; (focus kernel_rfl); try clear hK K) | (refine thn_normal ?_; refine hK _ _ ?_; try clear hK K) | refine catch_normal ?_ | refine awp_skip_k ?_ | refine awp_ret_k ?_ | refine awp_exit_k ?_ | refine awp_block_k ?_ | (refine thn_exit ?_; try clear hK K) | (refine thn_ret ?_; try clear hK K) | refine catch_ret ?_ | refine catch_exit ?_ | (refine catch_other ?_ ?_; focus decide)) | ((with_reducible first | apply aops_guard' | apply aopsD_guard' | apply awp_cond_g); focus (simp only [go_sem, hlt, hat, hpt]; exact rfl)) | (with_reducible first | refine gk_tt ?_ | refine gk_ff ?_ | refine ck_t ?_ | refine ck_f ?_) | ((with_reducible first | refine gk_tf ?_ | refine gk_ft ?_ | refine gk_u ?_ | refine gk_u' ?_); first | (intro _ e; (first | rw [put_some] at e | rw [put_none] at e); subst e) | (intro _ _ e e'; (first | rw [put_some] at e | rw [put_none] at e); subst e; subst e'))))
        simp only [idxF, hpt, if_true] at hi
        rw [hi]
        (refine retP_ret (List.range 40) rfl ?_; exact vwA)
      | false =>
        (repeat' (first | ((with_reducible first | refine aops_cons' fun C hC => ?_ | refine aopsD_cons' fun C hC => ?_ | intro C hC); simp only [go_sem, hlt, hat, hpt]; ((with_reducible first | refine finA hC ?_ | refine finD hC ?_); clear hC C)) | (with_reducible first | refine awp_seq_k fun K hK => ?_ | refine awp_reg_k fun K hK => ?_ | refine awp_dreg_k fun K hK => ?_ | (refine aops_nil ?_; refine hK _ _ ?_; try clear hK K) | (refine aopsD_nil ?_; refine hK _ _ _ ?_ ?_; (focus kernel_rfl); try clear hK K) | (refine thn_normal ?_; refine hK _ _ ?_; try clear hK K) | refine catch_normal ?_ | refine awp_skip_k ?_ | refine awp_ret_k ?_ | refine awp_exit_k ?_ | refine awp_block_k ?_ | (refine thn_exit ?_; try clear hK K) | (refine thn_ret ?_; try clear hK K) | refine catch_ret ?_ | refine catch_exit ?_ | (refine catch_other ?_ ?_; focus decide)) | ((with_reducible first | apply aops_guard' | apply aopsD_guard' | apply awp_cond_g); focus (simp only [go_sem, hlt, hat, hpt]; exact rfl)) | (with_reducible first | refine gk_tt ?_ | refine gk_ff ?_ | refine ck_t ?_ | refine ck_f ?_) | ((with_reducible first | refine gk_tf ?_ | refine gk_ft ?_ | refine gk_u ?_ | refine gk_u' ?_); first | (intro _ e; (first | rw [put_some] at e | rw [put_none] at e); subst e) | (intro _ _ e e'; (first | rw [put_some] at e | rw [put_none] at e); subst e; subst e'))))
        have hw := wrapS (n := pre.length) (by unfold big at hb; omega)
        refine thn_normal ?_
        refine hK1 _ _ _ _ _ (LeB [] (by refine ⟨?_, ?_, ?_⟩ <;> simp only [leFr, leFb, leHp, V.ren, V.renL, V.bd, V.bdL, allL, lt, Go.Ab.get, hget, List.map_cons, List.map_nil, List.length_cons, List.length_nil, List.length_append, List.getElem?_cons_zero, List.getElem?_cons_succ, List.getElem?_nil, Option.join_some, Option.join_none, List.getD_cons_zero, List.getD_cons_succ, List.getD_nil, Nat.reduceAdd, Nat.reduceLT, Nat.reduceEqDiff, Nat.zero_add, reduceIte, if_true, if_false, and_true, true_and, renL_vcells, allL_vcells, renL_pv, leBlk_some, eq_self, true_or, or_true, reduceCtorEq, false_or, hw, List.length_append])) (ih (pre ++ [t]) (by simp [hpre]) (by simpa [idxF, hpt] using hi))
  refine awp_loop_k _ (LeB [] (by refine ⟨?_, ?_, ?_⟩ <;> simp only [leFr, leFb, leHp, V.ren, V.renL, V.bd, V.bdL, allL, lt, Go.Ab.get, hget, List.map_cons, List.map_nil, List.length_cons, List.length_nil, List.length_append, List.getElem?_cons_zero, List.getElem?_cons_succ, List.getElem?_nil, Option.join_some, Option.join_none, List.getD_cons_zero, List.getD_cons_succ, List.getD_nil, Nat.reduceAdd, Nat.reduceLT, Nat.reduceEqDiff, Nat.zero_add, reduceIte, if_true, if_false, and_true, true_and, renL_vcells, allL_vcells, renL_pv, leBlk_some, eq_self, true_or, or_true, reduceCtorEq, false_or, c0])) (rows xs [] rfl rfl)
theorem hasI_ok (xs : List Int) (v : Int) : PCall Try.prog 72 [.list 1 (encI xs), ii v] (bb (xs.any fun x => v == x)) := by
  have h := idxI_ok xs v
  refine PCall.intro (ps := [bb (xs.any fun x => v == x)]) fn72 (by simp) ?_
  unfold ac72
  simp only [argFr]
  (repeat' (first | ((first | (with_reducible refine aops_call fun C hC => ?_) | (with_reducible refine aopsD_call fun C hC => ?_) | ((with_reducible intro C hC); (with_reducible refine ax_call_mp ?_))); (first | (simp only [go_sem, idxF_ge]; (first | ((with_reducible apply ACall.pure0 [] (h)); (focus (exact vwA)))))); (simp only [PV.scal, PV.scalL, if_true, Bool.and_true, Bool.and_false, Bool.false_and, Bool.true_and, frz, List.map_nil, Bool.false_eq_true, if_false, ite_self, idxF_ge]); ((with_reducible first | refine finA hC ?_ | refine finD hC ?_); clear hC C)) | ((with_reducible first | refine aops_cons' fun C hC => ?_ | refine aopsD_cons' fun C hC => ?_ | intro C hC); simp only [go_sem, idxF_ge]; ((with_reducible first | refine finA hC ?_ | refine finD hC ?_); clear hC C)) | (with_reducible first | refine awp_seq_k fun K hK => ?_ | refine awp_reg_k fun K hK => ?_ | refine awp_dreg_k fun K hK => ?_ | (refine aops_nil ?_; refine hK _ _ ?_; try clear hK K) | (refine aopsD_nil ?_; refine hK _ _ _ ?_ ?_; (focus kernel_rfl); try clear hK K) | (refine thn_normal ?_; refine hK _ _ ?_; try clear hK K) | refine catch_normal ?_ | refine awp_skip_k ?_ | refine awp_ret_k ?_ | refine awp_exit_k ?_ | refine awp_block_k ?_ | (refine thn_exit ?_; try clear hK K) | (refine thn_ret ?_; try clear hK K) | refine catch_ret ?_ | refine catch_exit ?_ | (refine catch_other ?_ ?_; focus decide)) | ((with_reducible first | apply aops_guard' | apply aopsD_guard' | apply awp_cond_g); focus (simp only [go_sem, idxF_ge]; exact rfl)) | (with_reducible first | refine gk_tt ?_ | refine gk_ff ?_ | refine ck_t ?_ | refine ck_f ?_) | ((with_reducible first | refine gk_tf ?_ | refine gk_ft ?_ | refine gk_u ?_ | refine gk_u' ?_); first | (intro _ e; (first | rw [put_some] at e | rw [put_none] at e); subst e) | (intro _ _ e e'; (first | rw [put_some] at e | rw [put_none] at e); subst e; subst e'))))
  (refine retP_ret (List.range 40) rfl ?_; exact vwA)
end Go.Proofs.Ytiediojibljpiaa
