/- M5: joined from Y5a Y5d. -/
import Derived.Test.YtbdoblgofddhdaaFnU
import Derived.Test.YtbdoblgofddhdaaM4
import Derived.Test.YtbdoblgofddhdaaA1
import Derived.Test.YtbdoblgofddhdaaA3
import Derived.Test.YtbdoblgofddhdaaM1
/- Associated types: Normalize. -/
set_option maxRecDepth 10000
set_option linter.unusedSimpArgs false
set_option linter.unusedVariables false
namespace Go.Proofs.Ytbdoblgofddhdaa
open Go Go.Ab
def Env.r (E : Env) : PV := .agg [.list 6 (encSy E.sy), E.r1, E.r2]
set_option maxHeartbeats 8000000 in
theorem norm_ok (E : Env) (t : Ty) : PCall Try.prog 30 [.agg [.list 6 (encSy E.sy), E.r1, E.r2], .list 7 (encDc E.ds), .list 4 (encTb E.az), t.enc] (NR E t).enc := by
  refine PCall.intro (ps := [(NR E t).enc]) fn30 (by simp) ?_
  generalize hR : NR E t = R
  unfold NR at hR
  unfold ac30
  simp only [argFr]
  cases hl : ((E.ds.length : Int) == (E.sy.length : Int)) with
  | false =>
    rw [hl] at hR
    simp only [Bool.not_false, if_true] at hR
    subst hR
    (repeat' (first | ((with_reducible first | refine qqT fun C hC => ?_ | refine qqU fun C hC => ?_ | intro C hC); simp only [go_sem, cells_enc, Ty.tc, encDc_len, encSy_len, bne, hl]; ((with_reducible first | refine finA hC ?_ | refine finD hC ?_); clear hC C)) | (with_reducible first | refine qqA fun K hK => ?_ | refine qqB fun K hK => ?_ | refine qqC fun K hK => ?_ | (refine qqD ?_; refine hK _ _ ?_; try clear hK K) | (refine qqE ?_; refine hK _ _ _ ?_ ?_; (focus kernel_rfl); try clear hK K) | (refine qqF ?_; refine hK _ _ ?_; try clear hK K) | refine qqG ?_ | refine qqH ?_ | refine qqI ?_ | refine qqJ ?_ | refine qqK ?_ | (refine qqL ?_; try clear hK K) | (refine qqM ?_; try clear hK K) | refine qqN ?_ | refine qqO ?_ | (refine qqP ?_ ?_; focus decide)) | ((with_reducible first | apply qqQ | apply qqR | apply qqS); focus (simp only [go_sem, cells_enc, Ty.tc, encDc_len, encSy_len, bne, hl]; exact rfl)) | (with_reducible first | refine gk_tt ?_ | refine gk_ff ?_ | refine ck_t ?_ | refine ck_f ?_) | ((with_reducible first | refine gk_tf ?_ | refine gk_ft ?_ | refine gk_u ?_ | refine gk_u' ?_); first | (intro _ e; (first | rw [qqY] at e | rw [qqZ] at e); subst e) | (intro _ _ e e'; (first | rw [qqY] at e | rw [qqZ] at e); subst e; subst e'))))
    refine retP_ret (List.range 40) rfl (.cons _ _ _ _ ?_ .nil)
    exact .agg _ _ (.cons _ _ _ _ (.pv _) (.cons _ _ _ _ (.pv _) (.cons _ _ _ _ Vw_nil .nil)))
  | true =>
    rw [hl] at hR
    simp only [Bool.not_true, Bool.false_eq_true, if_false] at hR
    have hlen : E.ds.length = E.sy.length := by have : (E.ds.length : Int) = E.sy.length := by simpa using hl
                                                omega
    have hc : MCall Try.prog 89 [.ptr 0 0 0, .pv t.enc, .pv (ii 8)] [some (nbk E false)] (.agg (Ty.tc (nrmT (prj E 8) t false).1)) [some (nbk E (nrmT (prj E 8) t false).2)] := nrm_ok E hlen 8 (by omega) t false
    generalize nrmT (prj E 8) t false = X at hc hR
    have hv := valid_ok X.1
    rw [enc3 X.1] at hv
    (repeat' (first | ((with_reducible first | refine qqT fun C hC => ?_ | refine qqU fun C hC => ?_ | intro C hC); simp only [go_sem, cells_enc, Ty.tc, encDc_len, encSy_len, bne, hl]; ((with_reducible first | refine finA hC ?_ | refine finD hC ?_); clear hC C)) | (with_reducible first | refine qqA fun K hK => ?_ | refine qqB fun K hK => ?_ | refine qqC fun K hK => ?_ | (refine qqD ?_; refine hK _ _ ?_; try clear hK K) | (refine qqE ?_; refine hK _ _ _ ?_ ?_; (focus kernel_rfl); try clear hK K) | (refine qqF ?_; refine hK _ _ ?_; try clear hK K) | refine qqG ?_ | refine qqH ?_ | refine qqI ?_ | refine qqJ ?_ | refine qqK ?_ | (refine qqL ?_; try clear hK K) | (refine qqM ?_; try clear hK K) | refine qqN ?_ | refine qqO ?_ | (refine qqP ?_ ?_; focus decide)) | ((with_reducible first | apply qqQ | apply qqR | apply qqS); focus (simp only [go_sem, cells_enc, Ty.tc, encDc_len, encSy_len, bne, hl]; exact rfl)) | (with_reducible first | refine gk_tt ?_ | refine gk_ff ?_ | refine ck_t ?_ | refine ck_f ?_) | ((with_reducible first | refine gk_tf ?_ | refine gk_ft ?_ | refine gk_u ?_ | refine gk_u' ?_); first | (intro _ e; (first | rw [qqY] at e | rw [qqZ] at e); subst e) | (intro _ _ e e'; (first | rw [qqY] at e | rw [qqZ] at e); subst e; subst e'))))
    refine qqV fun C hC => ?_
    simp only [go_sem]
    refine ACall.heap [3] hc rfl (by decide) (by decide) (VM.eq (.ptr 0 0 0) _ _ (VM.pv (.agg [.pv (ii t.kd), .pv (ii t.id), .pv (.list 3 (encL t.args))]) _ _ _ (by rw [enc3]; exact .agg _ _ (.cons _ _ _ _ (.pv _) (.cons _ _ _ _ (.pv _) (.cons _ _ _ _ (.pv _) .nil)))) (VM.eq (.pv (ii 8)) _ _ .nil))) (hhN rfl) ?_
    simp only [V.ren, V.renL, outD, outB, rho0, hget_zero, hget_succ, Option.map_some, Option.bind_some, nbk, Ty.tc, List.map_cons, List.map_nil]
    (with_reducible refine finA hC ?_); clear hC C
    cases hx : X.2 with
    | true =>
      rw [hx] at hR
      simp only [if_true] at hR
      subst hR
      (repeat' (first | ((with_reducible first | refine qqT fun C hC => ?_ | refine qqU fun C hC => ?_ | intro C hC); simp only [go_sem, hx]; ((with_reducible first | refine finA hC ?_ | refine finD hC ?_); clear hC C)) | (with_reducible first | refine qqA fun K hK => ?_ | refine qqB fun K hK => ?_ | refine qqC fun K hK => ?_ | (refine qqD ?_; refine hK _ _ ?_; try clear hK K) | (refine qqE ?_; refine hK _ _ _ ?_ ?_; (focus kernel_rfl); try clear hK K) | (refine qqF ?_; refine hK _ _ ?_; try clear hK K) | refine qqG ?_ | refine qqH ?_ | refine qqI ?_ | refine qqJ ?_ | refine qqK ?_ | (refine qqL ?_; try clear hK K) | (refine qqM ?_; try clear hK K) | refine qqN ?_ | refine qqO ?_ | (refine qqP ?_ ?_; focus decide)) | ((with_reducible first | apply qqQ | apply qqR | apply qqS); focus (simp only [go_sem, hx]; exact rfl)) | (with_reducible first | refine gk_tt ?_ | refine gk_ff ?_ | refine ck_t ?_ | refine ck_f ?_) | ((with_reducible first | refine gk_tf ?_ | refine gk_ft ?_ | refine gk_u ?_ | refine gk_u' ?_); first | (intro _ e; (first | rw [qqY] at e | rw [qqZ] at e); subst e) | (intro _ _ e e'; (first | rw [qqY] at e | rw [qqZ] at e); subst e; subst e'))))
      refine retP_ret (List.range 40) rfl (.cons _ _ _ _ ?_ .nil)
      exact .agg _ _ (.cons _ _ _ _ (.pv _) (.cons _ _ _ _ (.pv _) (.cons _ _ _ _ Vw_nil .nil)))
    | false =>
      rw [hx] at hR
      simp only [Bool.false_eq_true, if_false] at hR
      cases h2 : (valT X.1 == 2) with
      | true =>
        rw [h2, if_pos rfl] at hR
        subst hR
        (repeat' (first | ((first | (with_reducible refine qqV fun C hC => ?_) | (with_reducible refine qqW fun C hC => ?_) | ((with_reducible intro C hC); (with_reducible refine qqX ?_))); (first | (simp only [go_sem, hx, h2]; (first | ((with_reducible apply ACall.pure0 [] (hv)); (focus (exact vwA)))))); (simp only [go_sem, hx, h2]); ((with_reducible first | refine finA hC ?_ | refine finD hC ?_); clear hC C)) | ((with_reducible first | refine qqT fun C hC => ?_ | refine qqU fun C hC => ?_ | intro C hC); simp only [go_sem, hx, h2]; ((with_reducible first | refine finA hC ?_ | refine finD hC ?_); clear hC C)) | (with_reducible first | refine qqA fun K hK => ?_ | refine qqB fun K hK => ?_ | refine qqC fun K hK => ?_ | (refine qqD ?_; refine hK _ _ ?_; try clear hK K) | (refine qqE ?_; refine hK _ _ _ ?_ ?_; (focus kernel_rfl); try clear hK K) | (refine qqF ?_; refine hK _ _ ?_; try clear hK K) | refine qqG ?_ | refine qqH ?_ | refine qqI ?_ | refine qqJ ?_ | refine qqK ?_ | (refine qqL ?_; try clear hK K) | (refine qqM ?_; try clear hK K) | refine qqN ?_ | refine qqO ?_ | (refine qqP ?_ ?_; focus decide)) | ((with_reducible first | apply qqQ | apply qqR | apply qqS); focus (simp only [go_sem, hx, h2]; exact rfl)) | (with_reducible first | refine gk_tt ?_ | refine gk_ff ?_ | refine ck_t ?_ | refine ck_f ?_) | ((with_reducible first | refine gk_tf ?_ | refine gk_ft ?_ | refine gk_u ?_ | refine gk_u' ?_); first | (intro _ e; (first | rw [qqY] at e | rw [qqZ] at e); subst e) | (intro _ _ e e'; (first | rw [qqY] at e | rw [qqZ] at e); subst e; subst e'))))
        refine retP_ret (List.range 40) rfl (.cons _ _ _ _ ?_ .nil)
        exact .agg _ _ (.cons _ _ _ _ (.pv _) (.cons _ _ _ _ (.pv _) (.cons _ _ _ _ Vw_nil .nil)))
      | false =>
        rw [h2, if_neg (by simp)] at hR
        subst hR
        (repeat' (first | ((first | (with_reducible refine qqV fun C hC => ?_) | (with_reducible refine qqW fun C hC => ?_) | ((with_reducible intro C hC); (with_reducible refine qqX ?_))); (first | (simp only [go_sem, hx, h2]; (first | ((with_reducible apply ACall.pure0 [] (hv)); (focus (exact vwA)))))); (simp only [go_sem, hx, h2]); ((with_reducible first | refine finA hC ?_ | refine finD hC ?_); clear hC C)) | ((with_reducible first | refine qqT fun C hC => ?_ | refine qqU fun C hC => ?_ | intro C hC); simp only [go_sem, hx, h2]; ((with_reducible first | refine finA hC ?_ | refine finD hC ?_); clear hC C)) | (with_reducible first | refine qqA fun K hK => ?_ | refine qqB fun K hK => ?_ | refine qqC fun K hK => ?_ | (refine qqD ?_; refine hK _ _ ?_; try clear hK K) | (refine qqE ?_; refine hK _ _ _ ?_ ?_; (focus kernel_rfl); try clear hK K) | (refine qqF ?_; refine hK _ _ ?_; try clear hK K) | refine qqG ?_ | refine qqH ?_ | refine qqI ?_ | refine qqJ ?_ | refine qqK ?_ | (refine qqL ?_; try clear hK K) | (refine qqM ?_; try clear hK K) | refine qqN ?_ | refine qqO ?_ | (refine qqP ?_ ?_; focus decide)) | ((with_reducible first | apply qqQ | apply qqR | apply qqS); focus (simp only [go_sem, hx, h2]; exact rfl)) | (with_reducible first | refine gk_tt ?_ | refine gk_ff ?_ | refine ck_t ?_ | refine ck_f ?_) | ((with_reducible first | refine gk_tf ?_ | refine gk_ft ?_ | refine gk_u ?_ | refine gk_u' ?_); first | (intro _ e; (first | rw [qqY] at e | rw [qqZ] at e); subst e) | (intro _ _ e e'; (first | rw [qqY] at e | rw [qqZ] at e); subst e; subst e'))))
        refine retP_ret (List.range 40) rfl (.cons _ _ _ _ ?_ .nil)
        rw [enc3]
        exact .agg _ _ (.cons _ _ _ _ (.pv _) (.cons _ _ _ _ (.pv _) (.cons _ _ _ _ (.pv _) .nil)))
end Go.Proofs.Ytbdoblgofddhdaa
/- Associated types: the examples. -/
set_option maxRecDepth 10000
set_option linter.unusedSimpArgs false
set_option linter.unusedVariables false
namespace Go.Proofs.Ytbdoblgofddhdaa
open Go Go.Ab
/-! ### the examples -/
def nIter : ByteArray := ⟨#[73, 116, 101, 114]⟩
def nItem : ByteArray := ⟨#[73, 116, 101, 109]⟩
def exSy : List Sy := [⟨5, 0, 0, -1, nIter, bb false⟩, ⟨13, 0, 0, 0, nItem, bb false⟩, ⟨6, 0, 0, -1, ⟨#[]⟩, bb false⟩, ⟨13, 0, 0, 2, nItem, bb false⟩]
def exDn : List Dc := [⟨[], .mk 0 0 [], -1, [], nl⟩, ⟨[], .mk 0 0 [], -1, [], nl⟩, ⟨[], .mk 3 0 [], 0, [], nl⟩, ⟨[], .mk 4 0 [], -1, [], nl⟩]
def exEa : Env := ⟨exSy, nl, nl, exDn, []⟩
def exEb : Env := ⟨exSy, nl, nl, exDn, [⟨.mk 2 7 [], 0⟩]⟩
def exRig : Ty := .mk 10 1 [.mk 2 7 []]
theorem exNa : NR exEa (.mk 8 0 [.mk 10 1 [.mk 3 0 []]]) = .mk 8 0 [.mk 4 0 []] := by kernel_rfl
theorem exNb : NR exEb exRig = exRig := by kernel_rfl
end Go.Proofs.Ytbdoblgofddhdaa
