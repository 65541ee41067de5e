/- W1: joined from ZW1. -/
import Derived.Test.YtiediojibljpiaaVFnU
import Derived.Test.YtiediojibljpiaaVP7
/- Helpers of the laws: error types, equality of bindings, the example. -/
set_option maxRecDepth 10000
set_option linter.unusedSimpArgs false
set_option linter.unusedVariables false
namespace Go.Proofs.Ytiediojibljpiaa
open Go Go.Ab
theorem neTL_any : ∀ ss : List Ty, (ss.any fun a => !neT a) = !neTL ss
  | [] => rfl
  | t :: ts => by simp only [List.any_cons, neTL, neTL_any ts]; cases neT t <;> simp
set_option maxHeartbeats 1000000 in
theorem err48 : ∀ t : Ty, PCall Try.prog 48 [t.enc] (bb (!neT t))
  | .mk k id ss => by
    have hrec : ∀ t ∈ ss, PCall Try.prog 48 ([Ty.enc t] ++ []) (bb (!neT t)) := fun t ht => by rw [List.append_nil]; exact err48 t
    have hh := hasT_ok 48 [] (fun a => !neT a) ss hrec
    rw [neTL_any] at hh
    clear hrec
    refine PCall.intro (ps := [bb (!neT (.mk k id ss))]) fn48 (by simp) ?_
    unfold ac48
    simp only [argFr]
    cases hk : (k == 0) with
    | true =>
      (repeat' (first|((first|(with_reducible refine qqV fun C hC=>?_)|(with_reducible refine qqW fun C hC=>?_)|((with_reducible intro C hC);(with_reducible refine qqX ?_)));(first|(simp only [go_sem, cells_enc, Ty.tc, Ty.kd, Ty.id, Ty.args, hk];(first|((with_reducible apply ACall.pure0 [] (hh));(focus (exact vwA))))));(simp only [go_sem, cells_enc, Ty.tc, Ty.kd, Ty.id, Ty.args, hk]);((with_reducible first|refine finA hC ?_|refine finD hC ?_);clear hC C))|((with_reducible first|refine qqT fun C hC=>?_|refine qqU fun C hC=>?_|intro C hC);simp only [go_sem, cells_enc, Ty.tc, Ty.kd, Ty.id, Ty.args, hk];((with_reducible first|refine finA hC ?_|refine finD hC ?_);clear hC C))|(with_reducible first|refine qqA fun K hK=>?_|refine qqB fun K hK=>?_|refine qqC fun K hK=>?_|(refine qqD ?_;refine hK _ _ ?_;try clear hK K)|(refine qqE ?_;refine hK _ _ _ ?_ ?_;(focus kernel_rfl);try clear hK K)|(refine qqF ?_;refine hK _ _ ?_;try clear hK K)|refine qqG ?_|refine qqH ?_|refine qqI ?_|refine qqJ ?_|refine qqK ?_|(refine qqL ?_;try clear hK K)|(refine qqM ?_;try clear hK K)|refine qqN ?_|refine qqO ?_|(refine qqP ?_ ?_;focus decide))|((with_reducible first|apply qqQ|apply qqR|apply qqS);focus (simp only [go_sem, cells_enc, Ty.tc, Ty.kd, Ty.id, Ty.args, hk];exact rfl))|(with_reducible first|refine gk_tt ?_|refine gk_ff ?_|refine ck_t ?_|refine ck_f ?_)|((with_reducible first|refine gk_tf ?_|refine gk_ft ?_|refine gk_u ?_|refine gk_u' ?_);first|(intro _ e;(first|rw [qqY] at e|rw [qqZ] at e);subst e)|(intro _ _ e e';(first|rw [qqY] at e|rw [qqZ] at e);subst e;subst e'))))
      (refine retP_ret (List.range 40) rfl ?_; (try simp only [neT, hk, Bool.not_true, Bool.false_and, Bool.not_false, if_true, if_false, Bool.false_eq_true, Bool.not_true, Bool.not_false]); exact vwA)
    | false =>
      (repeat' (first|((first|(with_reducible refine qqV fun C hC=>?_)|(with_reducible refine qqW fun C hC=>?_)|((with_reducible intro C hC);(with_reducible refine qqX ?_)));(first|(simp only [go_sem, cells_enc, Ty.tc, Ty.kd, Ty.id, Ty.args, hk];(first|((with_reducible apply ACall.pure0 [] (hh));(focus (exact vwA))))));(simp only [go_sem, cells_enc, Ty.tc, Ty.kd, Ty.id, Ty.args, hk]);((with_reducible first|refine finA hC ?_|refine finD hC ?_);clear hC C))|((with_reducible first|refine qqT fun C hC=>?_|refine qqU fun C hC=>?_|intro C hC);simp only [go_sem, cells_enc, Ty.tc, Ty.kd, Ty.id, Ty.args, hk];((with_reducible first|refine finA hC ?_|refine finD hC ?_);clear hC C))|(with_reducible first|refine qqA fun K hK=>?_|refine qqB fun K hK=>?_|refine qqC fun K hK=>?_|(refine qqD ?_;refine hK _ _ ?_;try clear hK K)|(refine qqE ?_;refine hK _ _ _ ?_ ?_;(focus kernel_rfl);try clear hK K)|(refine qqF ?_;refine hK _ _ ?_;try clear hK K)|refine qqG ?_|refine qqH ?_|refine qqI ?_|refine qqJ ?_|refine qqK ?_|(refine qqL ?_;try clear hK K)|(refine qqM ?_;try clear hK K)|refine qqN ?_|refine qqO ?_|(refine qqP ?_ ?_;focus decide))|((with_reducible first|apply qqQ|apply qqR|apply qqS);focus (simp only [go_sem, cells_enc, Ty.tc, Ty.kd, Ty.id, Ty.args, hk];exact rfl))|(with_reducible first|refine gk_tt ?_|refine gk_ff ?_|refine ck_t ?_|refine ck_f ?_)|((with_reducible first|refine gk_tf ?_|refine gk_ft ?_|refine gk_u ?_|refine gk_u' ?_);first|(intro _ e;(first|rw [qqY] at e|rw [qqZ] at e);subst e)|(intro _ _ e e';(first|rw [qqY] at e|rw [qqZ] at e);subst e;subst e'))))
      (refine retP_ret (List.range 40) rfl ?_; (try simp only [neT, hk, Bool.not_false, Bool.true_and, if_true, if_false, Bool.false_eq_true, Bool.not_true, Bool.not_false]); exact vwA)
termination_by t => SizeOf.sizeOf t
decreasing_by
  have := List.sizeOf_lt_of_mem ht
  simp only [Ty.mk.sizeOf_spec]; omega
def errQ (e : Eqn) : Bool := if !neT e.l then true else !neT e.r
theorem err47 (e : Eqn) : PCall Try.prog 47 [e.enc] (bb (errQ e)) := by
  have h1 := err48 e.l
  have h2 := err48 e.r
  refine PCall.intro (ps := [bb (errQ e)]) fn47 (by simp) ?_
  unfold ac47
  simp only [argFr]
  cases hv : (!neT e.l) with
  | true =>
    rw [hv] at h1
    (repeat' (first|((first|(with_reducible refine qqV fun C hC=>?_)|(with_reducible refine qqW fun C hC=>?_)|((with_reducible intro C hC);(with_reducible refine qqX ?_)));(first|(simp only [go_sem, cells_eqn, pcells_eqn];(first|((with_reducible apply ACall.pure0 [] (h1));(focus (exact vwA)))|((with_reducible apply ACall.pure0 [] (h2));(focus (exact vwA))))));(simp only [go_sem, cells_eqn, pcells_eqn]);((with_reducible first|refine finA hC ?_|refine finD hC ?_);clear hC C))|((with_reducible first|refine qqT fun C hC=>?_|refine qqU fun C hC=>?_|intro C hC);simp only [go_sem, cells_eqn, pcells_eqn];((with_reducible first|refine finA hC ?_|refine finD hC ?_);clear hC C))|(with_reducible first|refine qqA fun K hK=>?_|refine qqB fun K hK=>?_|refine qqC fun K hK=>?_|(refine qqD ?_;refine hK _ _ ?_;try clear hK K)|(refine qqE ?_;refine hK _ _ _ ?_ ?_;(focus kernel_rfl);try clear hK K)|(refine qqF ?_;refine hK _ _ ?_;try clear hK K)|refine qqG ?_|refine qqH ?_|refine qqI ?_|refine qqJ ?_|refine qqK ?_|(refine qqL ?_;try clear hK K)|(refine qqM ?_;try clear hK K)|refine qqN ?_|refine qqO ?_|(refine qqP ?_ ?_;focus decide))|((with_reducible first|apply qqQ|apply qqR|apply qqS);focus (simp only [go_sem, cells_eqn, pcells_eqn];exact rfl))|(with_reducible first|refine gk_tt ?_|refine gk_ff ?_|refine ck_t ?_|refine ck_f ?_)|((with_reducible first|refine gk_tf ?_|refine gk_ft ?_|refine gk_u ?_|refine gk_u' ?_);first|(intro _ e;(first|rw [qqY] at e|rw [qqZ] at e);subst e)|(intro _ _ e e';(first|rw [qqY] at e|rw [qqZ] at e);subst e;subst e'))))
    (refine retP_ret (List.range 40) rfl ?_; (try simp only [errQ, hv, if_true, if_false, Bool.false_eq_true, Bool.not_true, Bool.not_false]); exact vwA)
  | false =>
    rw [hv] at h1
    (repeat' (first|((first|(with_reducible refine qqV fun C hC=>?_)|(with_reducible refine qqW fun C hC=>?_)|((with_reducible intro C hC);(with_reducible refine qqX ?_)));(first|(simp only [go_sem, cells_eqn, pcells_eqn];(first|((with_reducible apply ACall.pure0 [] (h1));(focus (exact vwA)))|((with_reducible apply ACall.pure0 [] (h2));(focus (exact vwA))))));(simp only [go_sem, cells_eqn, pcells_eqn]);((with_reducible first|refine finA hC ?_|refine finD hC ?_);clear hC C))|((with_reducible first|refine qqT fun C hC=>?_|refine qqU fun C hC=>?_|intro C hC);simp only [go_sem, cells_eqn, pcells_eqn];((with_reducible first|refine finA hC ?_|refine finD hC ?_);clear hC C))|(with_reducible first|refine qqA fun K hK=>?_|refine qqB fun K hK=>?_|refine qqC fun K hK=>?_|(refine qqD ?_;refine hK _ _ ?_;try clear hK K)|(refine qqE ?_;refine hK _ _ _ ?_ ?_;(focus kernel_rfl);try clear hK K)|(refine qqF ?_;refine hK _ _ ?_;try clear hK K)|refine qqG ?_|refine qqH ?_|refine qqI ?_|refine qqJ ?_|refine qqK ?_|(refine qqL ?_;try clear hK K)|(refine qqM ?_;try clear hK K)|refine qqN ?_|refine qqO ?_|(refine qqP ?_ ?_;focus decide))|((with_reducible first|apply qqQ|apply qqR|apply qqS);focus (simp only [go_sem, cells_eqn, pcells_eqn];exact rfl))|(with_reducible first|refine gk_tt ?_|refine gk_ff ?_|refine ck_t ?_|refine ck_f ?_)|((with_reducible first|refine gk_tf ?_|refine gk_ft ?_|refine gk_u ?_|refine gk_u' ?_);first|(intro _ e;(first|rw [qqY] at e|rw [qqZ] at e);subst e)|(intro _ _ e e';(first|rw [qqY] at e|rw [qqZ] at e);subst e;subst e'))))
    (refine retP_ret (List.range 40) rfl ?_; (try simp only [errQ, hv, if_true, if_false, Bool.false_eq_true, Bool.not_true, Bool.not_false]); exact vwA)
theorem err14 (es : List Eqn) : PCall Try.prog 14 [.list 6 (encQ es)] (bb (es.any errQ)) := by
  have hc := hasQ_ok 47 [] errQ es fun e _ => by rw [List.append_nil]; exact err47 e
  refine PCall.intro (ps := [bb (es.any errQ)]) fn14 (by simp) ?_
  unfold ac14
  simp only [argFr]
  (repeat' (first|((first|(with_reducible refine qqV fun C hC=>?_)|(with_reducible refine qqW fun C hC=>?_)|((with_reducible intro C hC);(with_reducible refine qqX ?_)));(first|(simp only [go_sem];(first|((with_reducible apply ACall.pure0 [] (hc));(focus (exact vwA))))));(simp only [go_sem]);((with_reducible first|refine finA hC ?_|refine finD hC ?_);clear hC C))|((with_reducible first|refine qqT fun C hC=>?_|refine qqU fun C hC=>?_|intro C hC);simp only [go_sem];((with_reducible first|refine finA hC ?_|refine finD hC ?_);clear hC C))|(with_reducible first|refine qqA fun K hK=>?_|refine qqB fun K hK=>?_|refine qqC fun K hK=>?_|(refine qqD ?_;refine hK _ _ ?_;try clear hK K)|(refine qqE ?_;refine hK _ _ _ ?_ ?_;(focus kernel_rfl);try clear hK K)|(refine qqF ?_;refine hK _ _ ?_;try clear hK K)|refine qqG ?_|refine qqH ?_|refine qqI ?_|refine qqJ ?_|refine qqK ?_|(refine qqL ?_;try clear hK K)|(refine qqM ?_;try clear hK K)|refine qqN ?_|refine qqO ?_|(refine qqP ?_ ?_;focus decide))|((with_reducible first|apply qqQ|apply qqR|apply qqS);focus (simp only [go_sem];exact rfl))|(with_reducible first|refine gk_tt ?_|refine gk_ff ?_|refine ck_t ?_|refine ck_f ?_)|((with_reducible first|refine gk_tf ?_|refine gk_ft ?_|refine gk_u ?_|refine gk_u' ?_);first|(intro _ e;(first|rw [qqY] at e|rw [qqZ] at e);subst e)|(intro _ _ e e';(first|rw [qqY] at e|rw [qqZ] at e);subst e;subst e'))))
  (refine retP_ret (List.range 40) rfl ?_; exact vwA)
theorem err_ne {es : List Eqn} (h : es.any errQ = false) : neQ es := fun e he => by
  rw [List.any_eq_false] at h
  have h1 := h e he
  unfold errQ at h1
  cases h2 : neT e.l <;> cases h3 : neT e.r <;> simp [h2, h3] at h1 ⊢
def eqB : List Bd → List Bd → Bool
  | [], [] => true
  | a :: xs, b :: ys => if a.v != b.v then false else if !eqT a.t b.t then false else eqB xs ys
  | [], _ :: _ => false
  | _ :: _, [] => false
theorem eqB_self : ∀ xs : List Bd, eqB xs xs = true
  | [] => rfl
  | a :: xs => by simp [eqB, (eqT_iff a.t a.t).2 rfl, eqB_self xs]
theorem eqB_len : ∀ {xs ys : List Bd}, xs.length ≠ ys.length → eqB xs ys = false
  | [], [], h => absurd rfl h
  | a :: xs, b :: ys, h => by
    simp only [eqB]
    split
    · rfl
    · split
      · rfl
      · exact eqB_len (by simpa using h)
  | [], _ :: _, _ => rfl
  | _ :: _, [], _ => rfl
set_option maxHeartbeats 2000000 in
theorem eqb_ok (xs ys : List Bd) : PCall Try.prog 12 [.list 4 (encB xs), .list 4 (encB ys)] (bb (eqB xs ys)) := by
  refine PCall.intro' (ps := [bb (eqB xs ys)]) fn12 (by simp) fun hok => ?_
  have hss : xs.length ≤ 1099511627776 := by
    simp only [PV.okL, PV.ok, encB_len, big] at hok; exact hok.1.1
  clear hok
  unfold ac12
  simp only [argFr]
  by_cases hl : xs.length = ys.length
  · have hl' : ((xs.length : Int) != (ys.length : Int)) = false := by simp only [bne_eq_false_iff_eq]; omega
    (repeat' (first|((with_reducible first|refine qqT fun C hC=>?_|refine qqU fun C hC=>?_|intro C hC);simp only [go_sem, encB_len, hl'];((with_reducible first|refine finA hC ?_|refine finD hC ?_);clear hC C))|(with_reducible first|refine qqA fun K hK=>?_|refine qqB fun K hK=>?_|refine qqC fun K hK=>?_|(refine qqD ?_;refine hK _ _ ?_;try clear hK K)|(refine qqE ?_;refine hK _ _ _ ?_ ?_;(focus kernel_rfl);try clear hK K)|(refine qqF ?_;refine hK _ _ ?_;try clear hK K)|refine qqG ?_|refine qqH ?_|refine qqI ?_|refine qqJ ?_|refine qqK ?_|(refine qqL ?_;try clear hK K)|(refine qqM ?_;try clear hK K)|refine qqN ?_|refine qqO ?_|(refine qqP ?_ ?_;focus decide))|((with_reducible first|apply qqQ|apply qqR|apply qqS);focus (simp only [go_sem, encB_len, hl'];exact rfl))|(with_reducible first|refine gk_tt ?_|refine gk_ff ?_|refine ck_t ?_|refine ck_f ?_)|((with_reducible first|refine gk_tf ?_|refine gk_ft ?_|refine gk_u ?_|refine gk_u' ?_);first|(intro _ e;(first|rw [qqY] at e|rw [qqZ] at e);subst e)|(intro _ _ e e';(first|rw [qqY] at e|rw [qqZ] at e);subst e;subst e'))))
    have rows : ∀ (rx ry px py : List Bd), px ++ rx = xs → py ++ ry = ys → px.length = py.length → rx.length = ry.length → eqB xs ys = eqB rx ry → loopN (awp Try.prog ac12_l0) (catch_ 0 (thn K (retP [RV.tmp 4] [bb (eqB xs ys)]))) (rx.length + 1)
       [(13, .pv (ii px.length)), (12, .pv (ii xs.length)), (1, .pv (.list 4 (encB ys))), (0, .pv (.list 4 (encB xs)))] [] := by
      intro rx
      induction rx with
      | nil =>
        intro ry px py hx hy hp hr he
        have hx : px = xs := by simpa using hx
        have hry : ry = [] := by simpa using hr.symm
        subst hx hry
        refine loopN_k fun K1 hK1 => ?_
        unfold ac12_l0
        (repeat' (first|((with_reducible first|refine qqT fun C hC=>?_|refine qqU fun C hC=>?_|intro C hC);simp only [go_sem, lt_end];((with_reducible first|refine finA hC ?_|refine finD hC ?_);clear hC C))|(with_reducible first|refine qqA fun K hK=>?_|refine qqB fun K hK=>?_|refine qqC fun K hK=>?_|(refine qqD ?_;refine hK _ _ ?_;try clear hK K)|(refine qqE ?_;refine hK _ _ _ ?_ ?_;(focus kernel_rfl);try clear hK K)|(refine qqF ?_;refine hK _ _ ?_;try clear hK K)|refine qqG ?_|refine qqH ?_|refine qqI ?_|refine qqJ ?_|refine qqK ?_|(refine qqL ?_;try clear hK K)|(refine qqM ?_;try clear hK K)|refine qqN ?_|refine qqO ?_|(refine qqP ?_ ?_;focus decide))|((with_reducible first|apply qqQ|apply qqR|apply qqS);focus (simp only [go_sem, lt_end];exact rfl))|(with_reducible first|refine gk_tt ?_|refine gk_ff ?_|refine ck_t ?_|refine ck_f ?_)|((with_reducible first|refine gk_tf ?_|refine gk_ft ?_|refine gk_u ?_|refine gk_u' ?_);first|(intro _ e;(first|rw [qqY] at e|rw [qqZ] at e);subst e)|(intro _ _ e e';(first|rw [qqY] at e|rw [qqZ] at e);subst e;subst e'))))
        rw [he]
        (refine retP_ret (List.range 40) rfl ?_; (try simp only [eqB, if_true, if_false, Bool.false_eq_true, Bool.not_true, Bool.not_false]); exact vwA)
      | cons a rx ih =>
        intro ry px py hx hy hp hr he
        cases ry with
        | nil => simp at hr
        | cons b ry =>
        have hlt : decide ((px.length : Int) < (xs.length : Int)) = true := by rw [← hx]; exact lt_app _ _ _
        have hatx : (encB xs)[px.length]? = some a.enc := by rw [← hx]; exact encB_at _ _ _
        have haty : (encB ys)[px.length]? = some b.enc := by rw [← hy, hp]; exact encB_at _ _ _
        have hb : px.length + 1 ≤ big := by have := congrArg List.length hx; simp at this; unfold big; omega
        have hc := equal2_ok a.t b.t
        refine loopN_k fun K1 hK1 => ?_
        unfold ac12_l0
        cases hv : (a.v != b.v) with
        | true =>
          have he2 : eqB xs ys = false := by rw [he, eqB, hv, if_pos rfl]
          (repeat' (first|((first|(with_reducible refine qqV fun C hC=>?_)|(with_reducible refine qqW fun C hC=>?_)|((with_reducible intro C hC);(with_reducible refine qqX ?_)));(first|(simp only [go_sem, hlt, hatx, haty, pcells_bd, hv];(first|((with_reducible apply ACall.pure0 [] (hc));(focus (exact vwA))))));(simp only [go_sem, hlt, hatx, haty, pcells_bd, hv]);((with_reducible first|refine finA hC ?_|refine finD hC ?_);clear hC C))|((with_reducible first|refine qqT fun C hC=>?_|refine qqU fun C hC=>?_|intro C hC);simp only [go_sem, hlt, hatx, haty, pcells_bd, hv];((with_reducible first|refine finA hC ?_|refine finD hC ?_);clear hC C))|(with_reducible first|refine qqA fun K hK=>?_|refine qqB fun K hK=>?_|refine qqC fun K hK=>?_|(refine qqD ?_;refine hK _ _ ?_;try clear hK K)|(refine qqE ?_;refine hK _ _ _ ?_ ?_;(focus kernel_rfl);try clear hK K)|(refine qqF ?_;refine hK _ _ ?_;try clear hK K)|refine qqG ?_|refine qqH ?_|refine qqI ?_|refine qqJ ?_|refine qqK ?_|(refine qqL ?_;try clear hK K)|(refine qqM ?_;try clear hK K)|refine qqN ?_|refine qqO ?_|(refine qqP ?_ ?_;focus decide))|((with_reducible first|apply qqQ|apply qqR|apply qqS);focus (simp only [go_sem, hlt, hatx, haty, pcells_bd, hv];exact rfl))|(with_reducible first|refine gk_tt ?_|refine gk_ff ?_|refine ck_t ?_|refine ck_f ?_)|((with_reducible first|refine gk_tf ?_|refine gk_ft ?_|refine gk_u ?_|refine gk_u' ?_);first|(intro _ e;(first|rw [qqY] at e|rw [qqZ] at e);subst e)|(intro _ _ e e';(first|rw [qqY] at e|rw [qqZ] at e);subst e;subst e'))))
          rw [he2]
          (refine retP_ret (List.range 40) rfl ?_; exact vwA)
        | false =>
          cases hq : eqT a.t b.t with
          | false =>
            rw [hq] at hc
            have he2 : eqB xs ys = false := by rw [he, eqB, hv, if_neg (by decide), hq]; rfl
            (repeat' (first|((first|(with_reducible refine qqV fun C hC=>?_)|(with_reducible refine qqW fun C hC=>?_)|((with_reducible intro C hC);(with_reducible refine qqX ?_)));(first|(simp only [go_sem, hlt, hatx, haty, pcells_bd, hv];(first|((with_reducible apply ACall.pure0 [] (hc));(focus (exact vwA))))));(simp only [go_sem, hlt, hatx, haty, pcells_bd, hv]);((with_reducible first|refine finA hC ?_|refine finD hC ?_);clear hC C))|((with_reducible first|refine qqT fun C hC=>?_|refine qqU fun C hC=>?_|intro C hC);simp only [go_sem, hlt, hatx, haty, pcells_bd, hv];((with_reducible first|refine finA hC ?_|refine finD hC ?_);clear hC C))|(with_reducible first|refine qqA fun K hK=>?_|refine qqB fun K hK=>?_|refine qqC fun K hK=>?_|(refine qqD ?_;refine hK _ _ ?_;try clear hK K)|(refine qqE ?_;refine hK _ _ _ ?_ ?_;(focus kernel_rfl);try clear hK K)|(refine qqF ?_;refine hK _ _ ?_;try clear hK K)|refine qqG ?_|refine qqH ?_|refine qqI ?_|refine qqJ ?_|refine qqK ?_|(refine qqL ?_;try clear hK K)|(refine qqM ?_;try clear hK K)|refine qqN ?_|refine qqO ?_|(refine qqP ?_ ?_;focus decide))|((with_reducible first|apply qqQ|apply qqR|apply qqS);focus (simp only [go_sem, hlt, hatx, haty, pcells_bd, hv];exact rfl))|(with_reducible first|refine gk_tt ?_|refine gk_ff ?_|refine ck_t ?_|refine ck_f ?_)|((with_reducible first|refine gk_tf ?_|refine gk_ft ?_|refine gk_u ?_|refine gk_u' ?_);first|(intro _ e;(first|rw [qqY] at e|rw [qqZ] at e);subst e)|(intro _ _ e e';(first|rw [qqY] at e|rw [qqZ] at e);subst e;subst e'))))
            rw [he2]
            (refine retP_ret (List.range 40) rfl ?_; exact vwA)
          | true =>
            rw [hq] at hc
            have he2 : eqB xs ys = eqB rx ry := by rw [he, eqB, hv, if_neg (by decide), hq]; rfl
            (repeat' (first|((first|(with_reducible refine qqV fun C hC=>?_)|(with_reducible refine qqW fun C hC=>?_)|((with_reducible intro C hC);(with_reducible refine qqX ?_)));(first|(simp only [go_sem, hlt, hatx, haty, pcells_bd, hv];(first|((with_reducible apply ACall.pure0 [] (hc));(focus (exact vwA))))));(simp only [go_sem, hlt, hatx, haty, pcells_bd, hv]);((with_reducible first|refine finA hC ?_|refine finD hC ?_);clear hC C))|((with_reducible first|refine qqT fun C hC=>?_|refine qqU fun C hC=>?_|intro C hC);simp only [go_sem, hlt, hatx, haty, pcells_bd, hv];((with_reducible first|refine finA hC ?_|refine finD hC ?_);clear hC C))|(with_reducible first|refine qqA fun K hK=>?_|refine qqB fun K hK=>?_|refine qqC fun K hK=>?_|(refine qqD ?_;refine hK _ _ ?_;try clear hK K)|(refine qqE ?_;refine hK _ _ _ ?_ ?_;(focus kernel_rfl);try clear hK K)|(refine qqF ?_;refine hK _ _ ?_;try clear hK K)|refine qqG ?_|refine qqH ?_|refine qqI ?_|refine qqJ ?_|refine qqK ?_|(refine qqL ?_;try clear hK K)|(refine qqM ?_;try clear hK K)|refine qqN ?_|refine qqO ?_|(refine qqP ?_ ?_;focus decide))|((with_reducible first|apply qqQ|apply qqR|apply qqS);focus (simp only [go_sem, hlt, hatx, haty, pcells_bd, hv];exact rfl))|(with_reducible first|refine gk_tt ?_|refine gk_ff ?_|refine ck_t ?_|refine ck_f ?_)|((with_reducible first|refine gk_tf ?_|refine gk_ft ?_|refine gk_u ?_|refine gk_u' ?_);first|(intro _ e;(first|rw [qqY] at e|rw [qqZ] at e);subst e)|(intro _ _ e e';(first|rw [qqY] at e|rw [qqZ] at e);subst e;subst e'))))
            have hw := wrapS (n := px.length) (by unfold big at hb; omega)
            refine qqF ?_
            refine hK1 _ _ _ _ _ (LeB [] (by refine ⟨?_, ?_, ?_⟩ <;> simp only [leFr, leFb, leHp, V.ren, V.renL, V.bd, V.bdL, allL, lt, Go.Ab.get, hget, List.map_cons, List.map_nil, List.length_cons, List.length_nil, List.length_append, List.getElem?_cons_zero, List.getElem?_cons_succ, List.getElem?_nil, Option.join_some, Option.join_none, List.getD_cons_zero, List.getD_cons_succ, List.getD_nil, Nat.reduceAdd, Nat.reduceLT, Nat.reduceEqDiff, Nat.zero_add, reduceIte, if_true, if_false, and_true, true_and, renL_vcells, allL_vcells, renL_pv, leBlk_some, eq_self, true_or, or_true, reduceCtorEq, false_or, hw, List.length_append])) (ih ry (px ++ [a]) (py ++ [b]) (by simp [hx]) (by simp [hy]) (by simp [hp]) (by simpa using hr) he2)
    refine awp_loop_k _ (LeB [] (by refine ⟨?_, ?_, ?_⟩ <;> simp only [leFr, leFb, leHp, V.ren, V.renL, V.bd, V.bdL, allL, lt, Go.Ab.get, hget, List.map_cons, List.map_nil, List.length_cons, List.length_nil, List.length_append, List.getElem?_cons_zero, List.getElem?_cons_succ, List.getElem?_nil, Option.join_some, Option.join_none, List.getD_cons_zero, List.getD_cons_succ, List.getD_nil, Nat.reduceAdd, Nat.reduceLT, Nat.reduceEqDiff, Nat.zero_add, reduceIte, if_true, if_false, and_true, true_and, renL_vcells, allL_vcells, renL_pv, leBlk_some, eq_self, true_or, or_true, reduceCtorEq, false_or, c0])) (rows xs ys [] [] rfl rfl rfl hl rfl)
  · have hl' : ((xs.length : Int) != (ys.length : Int)) = true := by simp only [bne_iff_ne, ne_eq]; omega
    (repeat' (first|((with_reducible first|refine qqT fun C hC=>?_|refine qqU fun C hC=>?_|intro C hC);simp only [go_sem, encB_len, hl'];((with_reducible first|refine finA hC ?_|refine finD hC ?_);clear hC C))|(with_reducible first|refine qqA fun K hK=>?_|refine qqB fun K hK=>?_|refine qqC fun K hK=>?_|(refine qqD ?_;refine hK _ _ ?_;try clear hK K)|(refine qqE ?_;refine hK _ _ _ ?_ ?_;(focus kernel_rfl);try clear hK K)|(refine qqF ?_;refine hK _ _ ?_;try clear hK K)|refine qqG ?_|refine qqH ?_|refine qqI ?_|refine qqJ ?_|refine qqK ?_|(refine qqL ?_;try clear hK K)|(refine qqM ?_;try clear hK K)|refine qqN ?_|refine qqO ?_|(refine qqP ?_ ?_;focus decide))|((with_reducible first|apply qqQ|apply qqR|apply qqS);focus (simp only [go_sem, encB_len, hl'];exact rfl))|(with_reducible first|refine gk_tt ?_|refine gk_ff ?_|refine ck_t ?_|refine ck_f ?_)|((with_reducible first|refine gk_tf ?_|refine gk_ft ?_|refine gk_u ?_|refine gk_u' ?_);first|(intro _ e;(first|rw [qqY] at e|rw [qqZ] at e);subst e)|(intro _ _ e e';(first|rw [qqY] at e|rw [qqZ] at e);subst e;subst e'))))
    rw [eqB_len hl]
    (refine retP_ret (List.range 40) rfl ?_; exact vwA)
end Go.Proofs.Ytiediojibljpiaa
