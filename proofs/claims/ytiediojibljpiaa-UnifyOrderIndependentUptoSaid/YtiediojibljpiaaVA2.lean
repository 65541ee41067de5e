/- A2: joined from S5 S3 S6 S7. -/
import Derived.Test.YtiediojibljpiaaVFnU
import Derived.Test.YtiediojibljpiaaVA1
/- Types: FreeVars. -/
set_option maxRecDepth 10000
set_option linter.unusedSimpArgs false
set_option linter.unusedVariables false
namespace Go.Proofs.Ytiediojibljpiaa
open Go Go.Ab
def cI (x : Int) : List V := [.pv (ii x)]
theorem VwE_ii {h : HF} {B : List Nat} : ∀ (xs : List Int), VwE h B 1 (xs.map cI) (encI xs)
  | [] => .nil _
  | x :: xs => .cons _ _ _ _ _ rfl (.cons _ _ _ _ (.pv _) .nil) (VwE_ii xs)
theorem row_ii {h : HF} {B : List Nat} {b : Nat} {fl ro : Bool} {ty : Nat} {xs : List Int} {tg : Option (Nat × Nat × Nat)} (hb : b ∈ B) (hk : h b = some ⟨ro, ty, 1, xs.map cI, tg⟩) : Vw h B (.row b xs.length fl) (.list 1 (encI xs)) :=
  row_view hb hk (by simp) (VwE_ii xs)
theorem rho0 {b : Nat} {ρ : List Nat} {nb : Nat} : rho (b :: ρ) nb 0 = b := rfl
end Go.Proofs.Ytiediojibljpiaa
/- Types: Validate. -/
set_option maxRecDepth 10000
set_option linter.unusedSimpArgs false
set_option linter.unusedVariables false
namespace Go.Proofs.Ytiediojibljpiaa
open Go Go.Ab
def nwf (k id n : Int) : Bool :=
  if (if k == 0 then true else if k == 3 then true else if k == 4 then true else if k == 5 then true else k == 6) then (if id == 0 then n == 0 else false)
  else if (if k == 1 then true else k == 2) then (if decide (id ≥ 0) then n == 0 else false)
  else if k == 7 then decide (id ≥ 0)
  else if k == 8 then (if (if id == 0 then true else id == 1) then n == 1 else false)
  else if k == 9 then (if id == 0 then decide (n > 0) else false)
  else if k == 10 then (if decide (id ≥ 0) then n == 1 else false)
  else false
set_option maxHeartbeats 4000000 in
theorem nwf_ok (k id : Int) (ss : List Ty) : PCall Try.prog 70 [(Ty.mk k id ss).enc] (bb (nwf k id ss.length)) := by
  refine PCall.intro (ps := [bb (nwf k id ss.length)]) fn70 (by simp) ?_
  unfold ac70
  simp only [argFr]
  have hs : True := trivial
  (repeat' (first|((with_reducible first|refine qqT fun C hC=>?_|refine qqU fun C hC=>?_|intro C hC);simp only [go_sem, cells_enc, Ty.tc, Ty.kd, Ty.id, Ty.args, encL_len, hs];((with_reducible first|refine finA hC ?_|refine finD hC ?_);clear hC C))|(with_reducible first|refine qqA fun K hK=>?_|refine qqB fun K hK=>?_|refine qqC fun K hK=>?_|(refine qqD ?_;refine hK _ _ ?_;try clear hK K)|(refine qqE ?_;refine hK _ _ _ ?_ ?_;(focus kernel_rfl);try clear hK K)|(refine qqF ?_;refine hK _ _ ?_;try clear hK K)|refine qqG ?_|refine qqH ?_|refine qqI ?_|refine qqJ ?_|refine qqK ?_|(refine qqL ?_;try clear hK K)|(refine qqM ?_;try clear hK K)|refine qqN ?_|refine qqO ?_|(refine qqP ?_ ?_;focus decide))|((with_reducible first|apply qqQ|apply qqR|apply qqS);focus (simp only [go_sem, cells_enc, Ty.tc, Ty.kd, Ty.id, Ty.args, encL_len, hs];exact rfl))|(with_reducible first|refine gk_tt ?_|refine gk_ff ?_|refine ck_t ?_|refine ck_f ?_)|((with_reducible first|refine gk_tf ?_|refine gk_ft ?_|refine gk_u ?_|refine gk_u' ?_);first|(intro _ e;(first|rw [qqY] at e|rw [qqZ] at e);subst e)|(intro _ _ e e';(first|rw [qqY] at e|rw [qqZ] at e);subst e;subst e'))|((with_reducible refine ck_s (fun h=>?_) (fun h=>?_));all_goals ((try simp only [Bool.not_eq_true', Bool.not_eq_false'] at h);(try simp only [h, Bool.not_true, Bool.not_false]);(replace hs := And.intro h hs);clear h))|((with_reducible refine gk_s (fun h=>?_) (fun h=>?_));all_goals ((try simp only [Bool.not_eq_true', Bool.not_eq_false'] at h);(try simp only [h, Bool.not_true, Bool.not_false]);(replace hs := And.intro h hs);clear h))))
  all_goals (refine retP_ret (List.range 40) rfl ?_; (try simp only [nwf, hs, if_true, if_false, Bool.false_eq_true, Bool.not_true, Bool.not_false, reduceIte]); exact vwA)
mutual
def wfT : Ty → Bool
  | .mk k id ss => if nwf k id ss.length then wfTL ss else false
def wfTL : List Ty → Bool
  | [] => true
  | t :: ts => if wfT t then wfTL ts else false
end
theorem wfTL_any : ∀ ss : List Ty, (ss.any fun a => !wfT a) = !wfTL ss
  | [] => rfl
  | t :: ts => by simp only [List.any_cons, wfTL, wfTL_any ts]; cases wfT t <;> simp
set_option maxHeartbeats 1000000 in
theorem wf_ok : ∀ t : Ty, PCall Try.prog 57 [t.enc] (bb (wfT t))
  | .mk k id ss => by
    have hrec : ∀ t ∈ ss, PCall Try.prog 57 [t.enc] (bb (wfT t)) := fun t ht => wf_ok t
    have hcl : ∀ t ∈ ss, PCall Try.prog 71 ([Ty.enc t] ++ []) (bb (!wfT t)) := fun t ht => by
      have hc := hrec t ht
      clear hrec
      refine PCall.intro (ps := [bb (!wfT t)]) fn71 (by simp) ?_
      unfold ac71
      simp only [argFr, List.append_nil]
      (repeat' (first|((first|(with_reducible refine qqV fun C hC=>?_)|(with_reducible refine qqW fun C hC=>?_)|((with_reducible intro C hC);(with_reducible refine qqX ?_)));(first|(simp only [go_sem, cells_enc, Ty.tc];(first|((with_reducible apply ACall.pure0 [] (hc));(focus (exact vwA))))));(simp only [go_sem, cells_enc, Ty.tc]);((with_reducible first|refine finA hC ?_|refine finD hC ?_);clear hC C))|((with_reducible first|refine qqT fun C hC=>?_|refine qqU fun C hC=>?_|intro C hC);simp only [go_sem, cells_enc, Ty.tc];((with_reducible first|refine finA hC ?_|refine finD hC ?_);clear hC C))|(with_reducible first|refine qqA fun K hK=>?_|refine qqB fun K hK=>?_|refine qqC fun K hK=>?_|(refine qqD ?_;refine hK _ _ ?_;try clear hK K)|(refine qqE ?_;refine hK _ _ _ ?_ ?_;(focus kernel_rfl);try clear hK K)|(refine qqF ?_;refine hK _ _ ?_;try clear hK K)|refine qqG ?_|refine qqH ?_|refine qqI ?_|refine qqJ ?_|refine qqK ?_|(refine qqL ?_;try clear hK K)|(refine qqM ?_;try clear hK K)|refine qqN ?_|refine qqO ?_|(refine qqP ?_ ?_;focus decide))|((with_reducible first|apply qqQ|apply qqR|apply qqS);focus (simp only [go_sem, cells_enc, Ty.tc];exact rfl))|(with_reducible first|refine gk_tt ?_|refine gk_ff ?_|refine ck_t ?_|refine ck_f ?_)|((with_reducible first|refine gk_tf ?_|refine gk_ft ?_|refine gk_u ?_|refine gk_u' ?_);first|(intro _ e;(first|rw [qqY] at e|rw [qqZ] at e);subst e)|(intro _ _ e e';(first|rw [qqY] at e|rw [qqZ] at e);subst e;subst e'))))
      (refine retP_ret (List.range 40) rfl ?_; exact vwA)
    have hh := hasT_ok 71 [] (fun a => !wfT a) ss hcl
    rw [wfTL_any] at hh
    clear hrec hcl
    have hn := nwf_ok k id ss
    refine PCall.intro (ps := [bb (wfT (.mk k id ss))]) fn57 (by simp) ?_
    unfold ac57
    simp only [argFr]
    cases h1 : nwf k id ss.length with
    | true =>
      rw [h1] at hn
      (repeat' (first|((first|(with_reducible refine qqV fun C hC=>?_)|(with_reducible refine qqW fun C hC=>?_)|((with_reducible intro C hC);(with_reducible refine qqX ?_)));(first|(simp only [go_sem, cells_enc, Ty.tc, Ty.kd, Ty.id, Ty.args, Bool.not_not];(first|((with_reducible apply ACall.pure0 [] (hn));(focus (exact vwA)))|((with_reducible apply ACall.pure0 [] (hh));(focus (exact vwA))))));(simp only [go_sem, cells_enc, Ty.tc, Ty.kd, Ty.id, Ty.args, Bool.not_not]);((with_reducible first|refine finA hC ?_|refine finD hC ?_);clear hC C))|((with_reducible first|refine qqT fun C hC=>?_|refine qqU fun C hC=>?_|intro C hC);simp only [go_sem, cells_enc, Ty.tc, Ty.kd, Ty.id, Ty.args, Bool.not_not];((with_reducible first|refine finA hC ?_|refine finD hC ?_);clear hC C))|(with_reducible first|refine qqA fun K hK=>?_|refine qqB fun K hK=>?_|refine qqC fun K hK=>?_|(refine qqD ?_;refine hK _ _ ?_;try clear hK K)|(refine qqE ?_;refine hK _ _ _ ?_ ?_;(focus kernel_rfl);try clear hK K)|(refine qqF ?_;refine hK _ _ ?_;try clear hK K)|refine qqG ?_|refine qqH ?_|refine qqI ?_|refine qqJ ?_|refine qqK ?_|(refine qqL ?_;try clear hK K)|(refine qqM ?_;try clear hK K)|refine qqN ?_|refine qqO ?_|(refine qqP ?_ ?_;focus decide))|((with_reducible first|apply qqQ|apply qqR|apply qqS);focus (simp only [go_sem, cells_enc, Ty.tc, Ty.kd, Ty.id, Ty.args, Bool.not_not];exact rfl))|(with_reducible first|refine gk_tt ?_|refine gk_ff ?_|refine ck_t ?_|refine ck_f ?_)|((with_reducible first|refine gk_tf ?_|refine gk_ft ?_|refine gk_u ?_|refine gk_u' ?_);first|(intro _ e;(first|rw [qqY] at e|rw [qqZ] at e);subst e)|(intro _ _ e e';(first|rw [qqY] at e|rw [qqZ] at e);subst e;subst e'))))
      (refine retP_ret (List.range 40) rfl ?_; (try simp only [wfT, h1, if_true, if_false, Bool.false_eq_true, Bool.not_true, Bool.not_false]); exact vwA)
    | false =>
      rw [h1] at hn
      (repeat' (first|((first|(with_reducible refine qqV fun C hC=>?_)|(with_reducible refine qqW fun C hC=>?_)|((with_reducible intro C hC);(with_reducible refine qqX ?_)));(first|(simp only [go_sem, cells_enc, Ty.tc, Ty.kd, Ty.id, Ty.args, Bool.not_not];(first|((with_reducible apply ACall.pure0 [] (hn));(focus (exact vwA)))|((with_reducible apply ACall.pure0 [] (hh));(focus (exact vwA))))));(simp only [go_sem, cells_enc, Ty.tc, Ty.kd, Ty.id, Ty.args, Bool.not_not]);((with_reducible first|refine finA hC ?_|refine finD hC ?_);clear hC C))|((with_reducible first|refine qqT fun C hC=>?_|refine qqU fun C hC=>?_|intro C hC);simp only [go_sem, cells_enc, Ty.tc, Ty.kd, Ty.id, Ty.args, Bool.not_not];((with_reducible first|refine finA hC ?_|refine finD hC ?_);clear hC C))|(with_reducible first|refine qqA fun K hK=>?_|refine qqB fun K hK=>?_|refine qqC fun K hK=>?_|(refine qqD ?_;refine hK _ _ ?_;try clear hK K)|(refine qqE ?_;refine hK _ _ _ ?_ ?_;(focus kernel_rfl);try clear hK K)|(refine qqF ?_;refine hK _ _ ?_;try clear hK K)|refine qqG ?_|refine qqH ?_|refine qqI ?_|refine qqJ ?_|refine qqK ?_|(refine qqL ?_;try clear hK K)|(refine qqM ?_;try clear hK K)|refine qqN ?_|refine qqO ?_|(refine qqP ?_ ?_;focus decide))|((with_reducible first|apply qqQ|apply qqR|apply qqS);focus (simp only [go_sem, cells_enc, Ty.tc, Ty.kd, Ty.id, Ty.args, Bool.not_not];exact rfl))|(with_reducible first|refine gk_tt ?_|refine gk_ff ?_|refine ck_t ?_|refine ck_f ?_)|((with_reducible first|refine gk_tf ?_|refine gk_ft ?_|refine gk_u ?_|refine gk_u' ?_);first|(intro _ e;(first|rw [qqY] at e|rw [qqZ] at e);subst e)|(intro _ _ e e';(first|rw [qqY] at e|rw [qqZ] at e);subst e;subst e'))))
      (refine retP_ret (List.range 40) rfl ?_; (try simp only [wfT, h1, if_true, if_false, Bool.false_eq_true, Bool.not_true, Bool.not_false]); exact vwA)
termination_by t => SizeOf.sizeOf t
decreasing_by
  have := List.sizeOf_lt_of_mem ht
  simp only [Ty.mk.sizeOf_spec]; omega
mutual
/-- size and depth, counted until the size passes L -/
def msr : Ty → Int → Int × Int
  | .mk _ _ ss, L => ((msrL ss L 1 0).1, (msrL ss L 1 0).2 + 1)
def msrL : List Ty → Int → Int → Int → Int × Int
  | [], _, s, d => (s, d)
  | t :: ts, L, s, d => if decide (s > L) then (s, d) else msrL ts L (s + (msr t (L - s)).1) (if (msr t (L - s)).2 > d then (msr t (L - s)).2 else d)
end
mutual
theorem msr_bd : ∀ (t : Ty) (L : Int), 0 ≤ L → 1 ≤ (msr t L).1 ∧ (msr t L).1 ≤ L + 1 ∧ 0 ≤ (msr t L).2 ∧ (msr t L).2 ≤ (msr t L).1
  | .mk k id ss, L, hL => by
    have := msrL_bd ss L 1 0 hL (by omega) (by omega) (by omega) (by omega)
    simp only [msr]; omega
theorem msrL_bd : ∀ (ts : List Ty) (L s d : Int), 0 ≤ L → 1 ≤ s → s ≤ L + 1 → 0 ≤ d → d < s → 1 ≤ (msrL ts L s d).1 ∧ (msrL ts L s d).1 ≤ L + 1 ∧ 0 ≤ (msrL ts L s d).2 ∧ (msrL ts L s d).2 < (msrL ts L s d).1
  | [], L, s, d, hL, h1, h2, h3, h4 => by simp only [msrL]; omega
  | t :: ts, L, s, d, hL, h1, h2, h3, h4 => by
    simp only [msrL]
    by_cases h : s > L
    · simp only [h, decide_true, if_true]; omega
    · simp only [h, decide_false, Bool.false_eq_true, if_false]
      have hb := msr_bd t (L - s) (by omega)
      refine msrL_bd ts L _ _ hL (by omega) (by omega) ?_ ?_ <;> split <;> omega
end
theorem w64 {n : Int} (h : -1000000 ≤ n ∧ n ≤ 1000000) : IntKind.i64.wrap n = n := by rw [IntWalk.i64_in _ (by omega)]
set_option maxHeartbeats 2000000 in
theorem meas_ok : ∀ (t : Ty) (L : Int), 0 ≤ L → L ≤ 100 → PCall Try.prog 56 [t.enc, ii L] (.tup [ii (msr t L).1, ii (msr t L).2])
  | .mk k id ss, L, hL, hL1 => by
    have hrec : ∀ t ∈ ss, ∀ l : Int, 0 ≤ l → l ≤ 100 → PCall Try.prog 56 [t.enc, ii l] (.tup [ii (msr t l).1, ii (msr t l).2]) := fun t ht l h0 h1 => meas_ok t l h0 h1
    refine PCall.intro' (ps := [ii (msr (.mk k id ss) L).1, ii (msr (.mk k id ss) L).2]) fn56 (by simp) fun hok => ?_
    have hss : ss.length ≤ 1099511627776 := by
      simp only [PV.okL, Ty.enc, PV.ok, encL_len, big] at hok; exact hok.1.2.2.1.1
    clear hok
    unfold ac56
    simp only [argFr]
    (repeat' (first|((with_reducible first|refine qqT fun C hC=>?_|refine qqU fun C hC=>?_|intro C hC);simp only [go_sem, encL_len, cells_enc, Ty.tc, Ty.kd, Ty.id, Ty.args];((with_reducible first|refine finA hC ?_|refine finD hC ?_);clear hC C))|(with_reducible first|refine qqA fun K hK=>?_|refine qqB fun K hK=>?_|refine qqC fun K hK=>?_|(refine qqD ?_;refine hK _ _ ?_;try clear hK K)|(refine qqE ?_;refine hK _ _ _ ?_ ?_;(focus kernel_rfl);try clear hK K)|(refine qqF ?_;refine hK _ _ ?_;try clear hK K)|refine qqG ?_|refine qqH ?_|refine qqI ?_|refine qqJ ?_|refine qqK ?_|(refine qqL ?_;try clear hK K)|(refine qqM ?_;try clear hK K)|refine qqN ?_|refine qqO ?_|(refine qqP ?_ ?_;focus decide))|((with_reducible first|apply qqQ|apply qqR|apply qqS);focus (simp only [go_sem, encL_len, cells_enc, Ty.tc, Ty.kd, Ty.id, Ty.args];exact rfl))|(with_reducible first|refine gk_tt ?_|refine gk_ff ?_|refine ck_t ?_|refine ck_f ?_)|((with_reducible first|refine gk_tf ?_|refine gk_ft ?_|refine gk_u ?_|refine gk_u' ?_);first|(intro _ e;(first|rw [qqY] at e|rw [qqZ] at e);subst e)|(intro _ _ e e';(first|rw [qqY] at e|rw [qqZ] at e);subst e;subst e'))))
    have rows : ∀ (rest pre : List Ty) (s d : Int), pre ++ rest = ss → 1 ≤ s → s ≤ L + 1 → 0 ≤ d → d < s → msrL ss L 1 0 = msrL rest L s d → loopN (awp Try.prog ac56_l0) (catch_ 0 (thn K (retP [RV.tmp 4, RV.tmp 5] [ii (msr (.mk k id ss) L).1, ii (msr (.mk k id ss) L).2]))) (rest.length + 1)
       [(13, .pv (ii pre.length)), (12, .pv (ii ss.length)), (11, .pv (.list 3 (encL ss))), (5, .pv (ii d)), (4, .pv (ii s)), (2, .ptr 0 0 0), (1, .pv (ii L))]
       [some ⟨false, 29, 3, [[.pv (ii k), .pv (ii id), .pv (.list 3 (encL ss))]], none⟩] := by
      intro rest
      induction rest with
      | nil =>
        intro pre s d hpre h1 h2 h3 h4 he
        have hpre : pre = ss := by simpa using hpre
        subst hpre
        have hw : IntKind.i64.wrap (d + 1) = d + 1 := w64 (by omega)
        refine loopN_k fun K1 hK1 => ?_
        unfold ac56_l0
        (repeat' (first|((with_reducible first|refine qqT fun C hC=>?_|refine qqU fun C hC=>?_|intro C hC);simp only [go_sem, lt_end, hw];((with_reducible first|refine finA hC ?_|refine finD hC ?_);clear hC C))|(with_reducible first|refine qqA fun K hK=>?_|refine qqB fun K hK=>?_|refine qqC fun K hK=>?_|(refine qqD ?_;refine hK _ _ ?_;try clear hK K)|(refine qqE ?_;refine hK _ _ _ ?_ ?_;(focus kernel_rfl);try clear hK K)|(refine qqF ?_;refine hK _ _ ?_;try clear hK K)|refine qqG ?_|refine qqH ?_|refine qqI ?_|refine qqJ ?_|refine qqK ?_|(refine qqL ?_;try clear hK K)|(refine qqM ?_;try clear hK K)|refine qqN ?_|refine qqO ?_|(refine qqP ?_ ?_;focus decide))|((with_reducible first|apply qqQ|apply qqR|apply qqS);focus (simp only [go_sem, lt_end, hw];exact rfl))|(with_reducible first|refine gk_tt ?_|refine gk_ff ?_|refine ck_t ?_|refine ck_f ?_)|((with_reducible first|refine gk_tf ?_|refine gk_ft ?_|refine gk_u ?_|refine gk_u' ?_);first|(intro _ e;(first|rw [qqY] at e|rw [qqZ] at e);subst e)|(intro _ _ e e';(first|rw [qqY] at e|rw [qqZ] at e);subst e;subst e'))))
        simp only [msr, he, msrL]
        (refine retP_ret (List.range 40) rfl ?_; exact vwA)
      | cons t rest ih =>
        intro pre s d hpre h1 h2 h3 h4 he
        have hlt : decide ((pre.length : Int) < (ss.length : Int)) = true := by subst hpre; exact lt_app _ _ _
        have hat : (encL ss)[pre.length]? = some t.enc := by subst hpre; exact encL_at _ _ _
        have hb : pre.length + 1 ≤ big := by have := congrArg List.length hpre; simp at this; unfold big; omega
        have hm : t ∈ ss := by subst hpre; simp
        refine loopN_k fun K1 hK1 => ?_
        unfold ac56_l0
        cases hgt : decide (s > L) with
        | true =>
          have hw : IntKind.i64.wrap (d + 1) = d + 1 := w64 (by omega)
          clear hrec
          (repeat' (first|((with_reducible first|refine qqT fun C hC=>?_|refine qqU fun C hC=>?_|intro C hC);simp only [go_sem, hlt, hat, cells_enc, pcells_enc, Ty.tc, hgt, hw];((with_reducible first|refine finA hC ?_|refine finD hC ?_);clear hC C))|(with_reducible first|refine qqA fun K hK=>?_|refine qqB fun K hK=>?_|refine qqC fun K hK=>?_|(refine qqD ?_;refine hK _ _ ?_;try clear hK K)|(refine qqE ?_;refine hK _ _ _ ?_ ?_;(focus kernel_rfl);try clear hK K)|(refine qqF ?_;refine hK _ _ ?_;try clear hK K)|refine qqG ?_|refine qqH ?_|refine qqI ?_|refine qqJ ?_|refine qqK ?_|(refine qqL ?_;try clear hK K)|(refine qqM ?_;try clear hK K)|refine qqN ?_|refine qqO ?_|(refine qqP ?_ ?_;focus decide))|((with_reducible first|apply qqQ|apply qqR|apply qqS);focus (simp only [go_sem, hlt, hat, cells_enc, pcells_enc, Ty.tc, hgt, hw];exact rfl))|(with_reducible first|refine gk_tt ?_|refine gk_ff ?_|refine ck_t ?_|refine ck_f ?_)|((with_reducible first|refine gk_tf ?_|refine gk_ft ?_|refine gk_u ?_|refine gk_u' ?_);first|(intro _ e;(first|rw [qqY] at e|rw [qqZ] at e);subst e)|(intro _ _ e e';(first|rw [qqY] at e|rw [qqZ] at e);subst e;subst e'))))
          simp only [msr, he, msrL, hgt, if_true]
          (refine retP_ret (List.range 40) rfl ?_; exact vwA)
        | false =>
          have hsl : ¬ s > L := by simpa using hgt
          have hw1 : IntKind.i64.wrap (L - s) = L - s := w64 (by omega)
          have hc := hrec t hm (L - s) (by omega) (by omega)
          have hbd := msr_bd t (L - s) (by omega)
          have hw2 : IntKind.i64.wrap (s + (msr t (L - s)).1) = s + (msr t (L - s)).1 := w64 (by omega)
          clear hrec
          (repeat' (first|((first|(with_reducible refine qqV fun C hC=>?_)|(with_reducible refine qqW fun C hC=>?_)|((with_reducible intro C hC);(with_reducible refine qqX ?_)));(first|(simp only [go_sem, hlt, hat, cells_enc, pcells_enc, Ty.tc, hgt, hw1, hw2];(first|((with_reducible apply ACall.pure0 [] (hc));(focus (exact vwA))))));(simp only [go_sem, hlt, hat, cells_enc, pcells_enc, Ty.tc, hgt, hw1, hw2]);((with_reducible first|refine finA hC ?_|refine finD hC ?_);clear hC C))|((with_reducible first|refine qqT fun C hC=>?_|refine qqU fun C hC=>?_|intro C hC);simp only [go_sem, hlt, hat, cells_enc, pcells_enc, Ty.tc, hgt, hw1, hw2];((with_reducible first|refine finA hC ?_|refine finD hC ?_);clear hC C))|(with_reducible first|refine qqA fun K hK=>?_|refine qqB fun K hK=>?_|refine qqC fun K hK=>?_|(refine qqD ?_;refine hK _ _ ?_;try clear hK K)|(refine qqE ?_;refine hK _ _ _ ?_ ?_;(focus kernel_rfl);try clear hK K)|(refine qqF ?_;refine hK _ _ ?_;try clear hK K)|refine qqG ?_|refine qqH ?_|refine qqI ?_|refine qqJ ?_|refine qqK ?_|(refine qqL ?_;try clear hK K)|(refine qqM ?_;try clear hK K)|refine qqN ?_|refine qqO ?_|(refine qqP ?_ ?_;focus decide))|((with_reducible first|apply qqQ|apply qqR|apply qqS);focus (simp only [go_sem, hlt, hat, cells_enc, pcells_enc, Ty.tc, hgt, hw1, hw2];exact rfl))|(with_reducible first|refine gk_tt ?_|refine gk_ff ?_|refine ck_t ?_|refine ck_f ?_)|((with_reducible first|refine gk_tf ?_|refine gk_ft ?_|refine gk_u ?_|refine gk_u' ?_);first|(intro _ e;(first|rw [qqY] at e|rw [qqZ] at e);subst e)|(intro _ _ e e';(first|rw [qqY] at e|rw [qqZ] at e);subst e;subst e'))))
          have hw := wrapS (n := pre.length) (by unfold big at hb; omega)
          refine qqF ?_
          refine hK1 _ _ _ _ _ (LeB [0] (by refine ⟨?_, ?_, ?_⟩ <;> simp only [leFr, leFb, leHp, V.ren, V.renL, V.bd, V.bdL, allL, lt, Go.Ab.get, hget, List.map_cons, List.map_nil, List.length_cons, List.length_nil, List.length_append, List.getElem?_cons_zero, List.getElem?_cons_succ, List.getElem?_nil, Option.join_some, Option.join_none, List.getD_cons_zero, List.getD_cons_succ, List.getD_nil, Nat.reduceAdd, Nat.reduceLT, Nat.reduceEqDiff, Nat.zero_add, reduceIte, if_true, if_false, and_true, true_and, renL_vcells, allL_vcells, renL_pv, leBlk_some, eq_self, true_or, or_true, reduceCtorEq, false_or, hw, List.length_append])) (ih (pre ++ [t]) (s + (msr t (L - s)).1) (if (msr t (L - s)).2 > d then (msr t (L - s)).2 else d) (by simp [hpre]) (by omega) (by omega) (by split <;> omega) (by split <;> omega) (by simpa only [msrL, hgt, Bool.false_eq_true, if_false] using he))
    refine awp_loop_k _ (LeB [0] (by refine ⟨?_, ?_, ?_⟩ <;> simp only [leFr, leFb, leHp, V.ren, V.renL, V.bd, V.bdL, allL, lt, Go.Ab.get, hget, List.map_cons, List.map_nil, List.length_cons, List.length_nil, List.length_append, List.getElem?_cons_zero, List.getElem?_cons_succ, List.getElem?_nil, Option.join_some, Option.join_none, List.getD_cons_zero, List.getD_cons_succ, List.getD_nil, Nat.reduceAdd, Nat.reduceLT, Nat.reduceEqDiff, Nat.zero_add, reduceIte, if_true, if_false, and_true, true_and, renL_vcells, allL_vcells, renL_pv, leBlk_some, eq_self, true_or, or_true, reduceCtorEq, false_or, c0])) (rows ss [] 1 0 rfl (by omega) (by omega) (by omega) (by omega) rfl)
termination_by t => SizeOf.sizeOf t
decreasing_by
  have := List.sizeOf_lt_of_mem ht
  simp only [Ty.mk.sizeOf_spec]; omega
def valT (t : Ty) : Int := if (if decide ((msr t 100).1 > 100) then true else decide ((msr t 100).2 > 12)) then 2 else if !wfT t then 3 else 0
set_option maxHeartbeats 1000000 in
theorem valid_ok (t : Ty) : PCall Try.prog 21 [t.enc] (ii (valT t)) := by
  have h1 := meas_ok t 100 (by omega) (by omega)
  have h2 := wf_ok t
  refine PCall.intro (ps := [ii (valT t)]) fn21 (by simp) ?_
  unfold ac21
  simp only [argFr]
  have hs : True := trivial
  (repeat' (first|((first|(with_reducible refine qqV fun C hC=>?_)|(with_reducible refine qqW fun C hC=>?_)|((with_reducible intro C hC);(with_reducible refine qqX ?_)));(first|(simp only [go_sem, cells_enc, Ty.tc, hs];(first|((with_reducible apply ACall.pure0 [] (h1));(focus (exact vwA)))|((with_reducible apply ACall.pure0 [] (h2));(focus (exact vwA))))));(simp only [go_sem, cells_enc, Ty.tc, hs]);((with_reducible first|refine finA hC ?_|refine finD hC ?_);clear hC C))|((with_reducible first|refine qqT fun C hC=>?_|refine qqU fun C hC=>?_|intro C hC);simp only [go_sem, cells_enc, Ty.tc, hs];((with_reducible first|refine finA hC ?_|refine finD hC ?_);clear hC C))|(with_reducible first|refine qqA fun K hK=>?_|refine qqB fun K hK=>?_|refine qqC fun K hK=>?_|(refine qqD ?_;refine hK _ _ ?_;try clear hK K)|(refine qqE ?_;refine hK _ _ _ ?_ ?_;(focus kernel_rfl);try clear hK K)|(refine qqF ?_;refine hK _ _ ?_;try clear hK K)|refine qqG ?_|refine qqH ?_|refine qqI ?_|refine qqJ ?_|refine qqK ?_|(refine qqL ?_;try clear hK K)|(refine qqM ?_;try clear hK K)|refine qqN ?_|refine qqO ?_|(refine qqP ?_ ?_;focus decide))|((with_reducible first|apply qqQ|apply qqR|apply qqS);focus (simp only [go_sem, cells_enc, Ty.tc, hs];exact rfl))|(with_reducible first|refine gk_tt ?_|refine gk_ff ?_|refine ck_t ?_|refine ck_f ?_)|((with_reducible first|refine gk_tf ?_|refine gk_ft ?_|refine gk_u ?_|refine gk_u' ?_);first|(intro _ e;(first|rw [qqY] at e|rw [qqZ] at e);subst e)|(intro _ _ e e';(first|rw [qqY] at e|rw [qqZ] at e);subst e;subst e'))|((with_reducible refine ck_s (fun h=>?_) (fun h=>?_));all_goals ((try simp only [Bool.not_eq_true', Bool.not_eq_false'] at h);(try simp only [h, Bool.not_true, Bool.not_false]);(replace hs := And.intro h hs);clear h))|((with_reducible refine gk_s (fun h=>?_) (fun h=>?_));all_goals ((try simp only [Bool.not_eq_true', Bool.not_eq_false'] at h);(try simp only [h, Bool.not_true, Bool.not_false]);(replace hs := And.intro h hs);clear h))))
  all_goals (refine retP_ret (List.range 40) rfl ?_; (try simp only [valT, hs, if_true, if_false, Bool.false_eq_true, Bool.not_true, Bool.not_false, reduceIte]); exact vwA)
end Go.Proofs.Ytiediojibljpiaa
/- Lists of integers compared; the check that the operations work at all. -/
set_option maxRecDepth 10000
set_option linter.unusedSimpArgs false
set_option linter.unusedVariables false
namespace Go.Proofs.Ytiediojibljpiaa
open Go Go.Ab
end Go.Proofs.Ytiediojibljpiaa
/- Variables of a type, substitution: the plain laws. -/
set_option linter.unusedSimpArgs false
set_option linter.unusedVariables false
namespace Go.Proofs.Ytiediojibljpiaa
open Go Go.Ab
mutual
def occ (x : Int) : Ty → Bool
  | .mk k id ss => (k == 1 && id == x) || occL x ss
def occL (x : Int) : List Ty → Bool
  | [] => false
  | t :: ts => occ x t || occL x ts
end
mutual
theorem sub_absent {s : List Bd} : ∀ (t : Ty), (∀ b ∈ s, occ b.v t = false) → subT s t = t
  | .mk k id ss, h => by
    have hg : subG s (.mk k id ss) = (.mk k id ss, false) := by
      unfold subG
      simp only [Ty.kd, Ty.id]
      by_cases hk : k = 1
      · have : findB s id = none := findB_none fun b hb => by
          have := h b hb
          simp only [occ, hk, beq_self_eq_true, Bool.true_and, Bool.or_eq_false_iff] at this
          have h2 := this.1
          simp only [beq_eq_false_iff_ne, ne_eq] at h2 ⊢
          exact fun e => h2 e.symm
        simp [hk, this]
      · simp [hk]
    simp only [subT, mapT, hg, Bool.false_eq_true, if_false]
    rw [sub_absentL ss fun b hb => by have := h b hb; simp only [occ, Bool.or_eq_false_iff] at this; exact this.2]
theorem sub_absentL {s : List Bd} : ∀ (ts : List Ty), (∀ b ∈ s, occL b.v ts = false) → mapTL (subG s) ts = ts
  | [], _ => rfl
  | t :: ts, h => by
    have h1 := sub_absent t fun b hb => by have := h b hb; simp only [occL, Bool.or_eq_false_iff] at this; exact this.1
    have h2 := sub_absentL ts fun b hb => by have := h b hb; simp only [occL, Bool.or_eq_false_iff] at this; exact this.2
    unfold subT at h1
    simp only [mapTL, h1, h2]
end
mutual
theorem occ_sub {v : Int} {r : Ty} {x : Int} : ∀ (t : Ty), occ x (subT [⟨v, r⟩] t) = true → occ x r = true ∨ (¬ x = v ∧ occ x t = true)
  | .mk k id ss, h => by
    by_cases hk : k = 1
    · by_cases hv : v = id
      · have hg : subG [⟨v, r⟩] (.mk k id ss) = (r, true) := by simp [subG, Ty.kd, Ty.id, hk, findB, hv]
        simp only [subT, mapT, hg, if_true] at h
        exact .inl h
      · have hg : subG [⟨v, r⟩] (.mk k id ss) = (.mk k id ss, false) := by simp [subG, Ty.kd, Ty.id, hk, findB, hv]
        simp only [subT, mapT, hg, Bool.false_eq_true, if_false, occ, Bool.or_eq_true, Bool.and_eq_true, beq_iff_eq] at h
        rcases h with ⟨_, e⟩ | h
        · exact .inr ⟨fun e' => hv (e'.symm.trans e.symm), by simp [occ, hk, e]⟩
        · rcases occ_subL ss h with h1 | ⟨h1, h2⟩
          · exact .inl h1
          · exact .inr ⟨h1, by simp [occ, h2]⟩
    · have hg : subG [⟨v, r⟩] (.mk k id ss) = (.mk k id ss, false) := by simp [subG, Ty.kd, hk]
      simp only [subT, mapT, hg, Bool.false_eq_true, if_false, occ, Bool.or_eq_true, Bool.and_eq_true, beq_iff_eq] at h
      rcases h with ⟨e, _⟩ | h
      · exact absurd e hk
      · rcases occ_subL ss h with h1 | ⟨h1, h2⟩
        · exact .inl h1
        · exact .inr ⟨h1, by simp [occ, h2]⟩
theorem occ_subL {v : Int} {r : Ty} {x : Int} : ∀ (ts : List Ty), occL x (mapTL (subG [⟨v, r⟩]) ts) = true → occ x r = true ∨ (¬ x = v ∧ occL x ts = true)
  | [], h => by simp [mapTL, occL] at h
  | t :: ts, h => by
    simp only [mapTL, occL, Bool.or_eq_true] at h
    rcases h with h | h
    · rcases occ_sub t h with h1 | ⟨h1, h2⟩
      · exact .inl h1
      · exact .inr ⟨h1, by simp [occL, h2]⟩
    · rcases occ_subL ts h with h1 | ⟨h1, h2⟩
      · exact .inl h1
      · exact .inr ⟨h1, by simp [occL, h2]⟩
end
/-! ### sizes -/
mutual
def nds : Ty → Nat
  | .mk _ _ ss => ndsL ss + 1
def ndsL : List Ty → Nat
  | [] => 0
  | t :: ts => nds t + ndsL ts
end
theorem nds_pos (t : Ty) : 1 ≤ nds t := by cases t; simp [nds]
end Go.Proofs.Ytiediojibljpiaa
