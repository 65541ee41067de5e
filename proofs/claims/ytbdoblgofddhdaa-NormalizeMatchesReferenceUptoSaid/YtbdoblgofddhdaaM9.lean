/- M9: joined from Y9. -/
import Derived.Test.YtbdoblgofddhdaaFnU
import Derived.Test.YtbdoblgofddhdaaM8
/- Associated types: the reference's NormalForm, by contract. -/
set_option maxRecDepth 10000
set_option linter.unusedSimpArgs false
set_option linter.unusedVariables false
namespace Go.Proofs.Ytbdoblgofddhdaa
open Go Go.Ab
theorem nfrL_app {g : Ty → Ty × Bool} {t : Ty} {rest : List Ty} : ∀ {pre qs : List Ty}, nfrL g pre = .inr qs → nfrL g (pre ++ t :: rest) = if (nfrT g t).2 then (match nfrL g rest with | .inl u => .inl u | .inr rs => .inr (qs ++ (nfrT g t).1 :: rs)) else .inl (nfrT g t).1
  | [], qs, h => by
    simp only [nfrL, Sum.inr.injEq] at h
    subst h
    simp only [List.nil_append, nfrL]
    cases (nfrT g t).2 with
    | false => rfl
    | true => cases nfrL g rest <;> rfl
  | x :: pre, qs, h => by
    simp only [nfrL] at h
    cases hx : (nfrT g x).2 with
    | false => rw [hx] at h; simp at h
    | true =>
      rw [hx, if_pos rfl] at h
      cases hp : nfrL g pre with
      | inl u => rw [hp] at h; cases h
      | inr qs' =>
        rw [hp] at h
        simp only [Sum.inr.injEq] at h
        subst h
        simp only [List.cons_append, nfrL, hx, if_true, nfrL_app hp]
        cases (nfrT g t).2 with
        | false => rfl
        | true => cases nfrL g rest <;> rfl
theorem nfrL_one {g : Ty → Ty × Bool} {t : Ty} {pre qs : List Ty} (h : nfrL g pre = .inr qs) (ht : (nfrT g t).2 = true) : nfrL g (pre ++ [t]) = .inr (qs ++ [(nfrT g t).1]) := by
  rw [nfrL_app h, ht]; rfl
theorem nfrL_length {g : Ty → Ty × Bool} : ∀ {ts qs : List Ty}, nfrL g ts = .inr qs → qs.length = ts.length
  | [], qs, h => by simp only [nfrL, Sum.inr.injEq] at h; subst h; rfl
  | x :: ts, qs, h => by
    simp only [nfrL] at h
    cases hx : (nfrT g x).2 with
    | false => rw [hx] at h; simp at h
    | true =>
      rw [hx, if_pos rfl] at h
      cases hp : nfrL g ts with
      | inl u => rw [hp] at h; cases h
      | inr qs' =>
        rw [hp] at h
        simp only [Sum.inr.injEq] at h
        subst h
        simp [nfrL_length hp]
theorem nfP_bad {E : Env} {n : Nat} {id : Int} {qs : List Ty} (h : trt E id < 0 ∨ qs.length ≠ 1) : nfP E n (.mk 10 id qs) = (.mk 10 id qs, false) := by
  unfold nfP
  by_cases h1 : decide (trt E (Ty.mk 10 id qs).id < 0) = true
  · rw [if_pos h1]
  · rw [if_neg h1, if_pos]
    have h1' : ¬ trt E id < 0 := fun h => h1 (decide_eq_true h)
    have h2 : qs.length ≠ 1 := by
      rcases h with h | h
      · exact absurd h h1'
      · exact h
    show (!((qs.length : Int) == 1)) = true
    simp; omega
theorem nfP_go {E : Env} {n : Nat} {id : Int} {a : Ty} (h : ¬ trt E id < 0) : nfP E n (.mk 10 id [a]) = match sol E.ds E.az 8 a (trt E id) with
    | none => (.mk 10 id [a], true)
    | some p => if decide (p.im < 0) then (.mk 10 id [a], true) else if decide (memI E p.im id < 0) then (zT, true) else
      match n with
      | 0 => (zT, true)
      | n + 1 => nfrT (nfP E n) (appT (dcP E.ds p.im) p.az (dcT E.ds (memI E p.im id))) := by
  unfold nfP
  rw [if_neg (show ¬ decide (trt E (Ty.mk 10 id [a]).id < 0) = true from fun e => h (of_decide_eq_true e)), if_neg (show ¬ (!(((Ty.mk 10 id [a]).args.length : Int) == 1)) = true from by show ¬ (!(((1 : Nat) : Int) == 1)) = true; decide)]
  rfl
theorem inR_f {v n : Int} (h : inR v 0 n = false) : v < 0 ∨ n < v := by
  unfold inR at h
  by_cases h0 : decide (0 ≤ v) = true
  · rw [if_pos h0] at h; have := of_decide_eq_false h; omega
  · have : ¬ 0 ≤ v := by simpa using h0
    omega
theorem inR_t {v n : Int} (h : inR v 0 n = true) : 0 ≤ v ∧ v ≤ n := by
  unfold inR at h
  by_cases h0 : decide (0 ≤ v) = true
  · rw [if_pos h0] at h; exact ⟨of_decide_eq_true h0, of_decide_eq_true h⟩
  · rw [if_neg h0] at h; cases h
theorem trt_out {E : Env} {i : Int} (h : i < 0 ∨ (E.sy.length : Int) - 1 < i) : trt E i < 0 := by
  unfold trt
  by_cases h0 : decide (i < 0) = true
  · rw [if_pos h0]; omega
  · rw [if_neg h0]
    have : ¬ i < 0 := by simpa using h0
    rw [List.getElem?_eq_none (by omega)]
    simp
theorem trt_at {E : Env} {j : Nat} {s : Sy} (hs : E.sy[j]? = some s) : trt E (j : Int) = if !(s.kd == 13) then -1 else if decide (s.pr < 0) then -1 else match E.sy[s.pr.toNat]? with | none => -1 | some u => if !(u.kd == 5) then -1 else s.pr := by
  unfold trt
  rw [if_neg (by simp), Int.toNat_natCast, hs]
  rfl
theorem sol_len {ds : List Dc} {az : List Tb} {n : Nat} {t : Ty} {tr : Int} {p : Prf} (h : sol ds az n t tr = some p) (h0 : ¬ p.im < 0) : ∃ (i : Nat) (d : Dc), p.im = (i : Int) ∧ ds[i]? = some d ∧ d.ps.length ≤ p.az.length := by
  rcases sol_cases h with ⟨_, _, rfl⟩ | ⟨m, i, xs, d, ps, rfl, _, h1, _, h3, _, _, rfl⟩
  · simp [Prf.im] at h0
  · exact ⟨i, d, rfl, h1, by simp only [Prf.az]; omega⟩
set_option maxHeartbeats 16000000 in
theorem nf_main (E : Env) (hlen : E.ds.length = E.sy.length) (hsl : E.sy.length ≤ 1099511627776) (hds : ∀ d ∈ E.ds, nds d.t ≤ 1099511627776) (n m : Nat) (hnm : n + m = 8)
    (hprev : ∀ k, n = k + 1 → ∀ t : Ty, PCall Try.prog 38 [.agg [.list 6 (encSy E.sy), E.r1, E.r2], .list 7 (encDc E.ds), .list 4 (encTb E.az), t.enc, ii (m + 1 : Nat)] (.tup [(nfrT (nfP E k) t).1.enc, bb (nfrT (nfP E k) t).2]))
    (k id : Int) (ss : List Ty) (hrec : ∀ t ∈ ss, PCall Try.prog 38 [.agg [.list 6 (encSy E.sy), E.r1, E.r2], .list 7 (encDc E.ds), .list 4 (encTb E.az), t.enc, ii m] (.tup [(nfrT (nfP E n) t).1.enc, bb (nfrT (nfP E n) t).2])) :
    PCall Try.prog 38 [.agg [.list 6 (encSy E.sy), E.r1, E.r2], .list 7 (encDc E.ds), .list 4 (encTb E.az), (Ty.mk k id ss).enc, ii m] (.tup [(nfrT (nfP E n) (.mk k id ss)).1.enc, bb (nfrT (nfP E n) (.mk k id ss)).2]) := by
  generalize hR : nfrT (nfP E n) (.mk k id ss) = R
  unfold nfrT at hR
  refine PCall.intro' (ps := [R.1.enc, bb R.2]) fn38 (by simp) fun hok => ?_
  have hss : ss.length ≤ 1099511627776 := by
    simp only [PV.okL, Ty.enc, PV.ok, encL_len, big] at hok; exact hok.2.2.2.1.2.2.1.1
  clear hok
  have hwl : IntKind.i64.wrap ((E.sy.length : Int) - 1) = (E.sy.length : Int) - 1 := by rw [IntWalk.i64_in _ (by omega)]
  have hin := fun v => inR_ok v 0 ((E.sy.length : Int) - 1)
  unfold ac38
  simp only [argFr]
  (repeat' (first | ((with_reducible first | refine qqT fun C hC => ?_ | refine qqU fun C hC => ?_ | intro C hC); simp only [go_sem, cells_enc, Ty.tc, kdZ, idZ, argsZ, encL_len]; ((with_reducible first | refine finA hC ?_ | refine finD hC ?_); clear hC C)) | (with_reducible first | refine qqA fun K hK => ?_ | refine qqB fun K hK => ?_ | refine qqC fun K hK => ?_ | (refine qqD ?_; refine hK _ _ ?_; try clear hK K) | (refine qqE ?_; refine hK _ _ _ ?_ ?_; (focus kernel_rfl); try clear hK K) | (refine qqF ?_; refine hK _ _ ?_; try clear hK K) | refine qqG ?_ | refine qqH ?_ | refine qqI ?_ | refine qqJ ?_ | refine qqK ?_ | (refine qqL ?_; try clear hK K) | (refine qqM ?_; try clear hK K) | refine qqN ?_ | refine qqO ?_ | (refine qqP ?_ ?_; focus decide)) | ((with_reducible first | apply qqQ | apply qqR | apply qqS); focus (simp only [go_sem, cells_enc, Ty.tc, kdZ, idZ, argsZ, encL_len]; exact rfl)) | (with_reducible first | refine gk_tt ?_ | refine gk_ff ?_ | refine ck_t ?_ | refine ck_f ?_) | ((with_reducible first | refine gk_tf ?_ | refine gk_ft ?_ | refine gk_u ?_ | refine gk_u' ?_); first | (intro _ e; (first | rw [qqY] at e | rw [qqZ] at e); subst e) | (intro _ _ e e'; (first | rw [qqY] at e | rw [qqZ] at e); subst e; subst e'))))
  -- walk
  have rows : ∀ (rest pre qs : List Ty), pre ++ rest = ss → nfrL (nfP E n) pre = .inr qs → loopN (awp Try.prog ac38_l0) (catch_ 0 (thn K (retP [RV.cell 10 3 true, RV.tmp 11] [R.1.enc, bb R.2]))) (rest.length + 1)
      [(25, .pv (ii pre.length)), (24, .pv (ii ss.length)), (23, .pv (.list 3 (encL ss))), (12, .row 3 qs.length false), (10, .ptr 2 0 0), (8, .ptr 1 0 0), (5, .ptr 0 0 0), (4, .pv (ii m)), (2, .pv (.list 4 (encTb E.az))), (1, .pv (.list 7 (encDc E.ds)))] [some ⟨false, 50, 3, [[.pv (.list 6 (encSy E.sy)), .pv E.r1, .pv E.r2]], none⟩, some ⟨false, 26, 3, [[.pv (ii k), .pv (ii id), .pv (.list 3 (encL ss))]], none⟩, some ⟨false, 26, 3, [[.pv (ii 0), .pv (ii 0), .pv (.lit (.slice none 0 0))]], none⟩, some ⟨false, 26, 3, qs.map Ty.tc, none⟩] := by
    intro rest
    induction rest with
    | nil =>
      intro pre qs hpre hq
      have hpre : pre = ss := by simpa using hpre
      have hlt : decide ((pre.length : Int) < (ss.length : Int)) = false := by rw [hpre]; exact lt_end _
      rw [hpre] at hq
      refine loopN_k fun K1 hK1 => ?_
      unfold ac38_l0
      rw [hq] at hR
      simp only at hR
      cases hk : (k == 10) with
      | false =>
        rw [hk, if_neg (by simp)] at hR
        subst hR
        (repeat' (first | ((with_reducible first | refine qqT fun C hC => ?_ | refine qqU fun C hC => ?_ | intro C hC); simp only [go_sem, hlt, hwl, cells_enc, Ty.tc, kdZ, idZ, argsZ, bne, encSy_len, hk]; ((with_reducible first | refine finA hC ?_ | refine finD hC ?_); clear hC C)) | (with_reducible first | refine qqA fun K hK => ?_ | refine qqB fun K hK => ?_ | refine qqC fun K hK => ?_ | (refine qqD ?_; refine hK _ _ ?_; try clear hK K) | (refine qqE ?_; refine hK _ _ _ ?_ ?_; (focus kernel_rfl); try clear hK K) | (refine qqF ?_; refine hK _ _ ?_; try clear hK K) | refine qqG ?_ | refine qqH ?_ | refine qqI ?_ | refine qqJ ?_ | refine qqK ?_ | (refine qqL ?_; try clear hK K) | (refine qqM ?_; try clear hK K) | refine qqN ?_ | refine qqO ?_ | (refine qqP ?_ ?_; focus decide)) | ((with_reducible first | apply qqQ | apply qqR | apply qqS); focus (simp only [go_sem, hlt, hwl, cells_enc, Ty.tc, kdZ, idZ, argsZ, bne, encSy_len, hk]; exact rfl)) | (with_reducible first | refine gk_tt ?_ | refine gk_ff ?_ | refine ck_t ?_ | refine ck_f ?_) | ((with_reducible first | refine gk_tf ?_ | refine gk_ft ?_ | refine gk_u ?_ | refine gk_u' ?_); first | (intro _ e; (first | rw [qqY] at e | rw [qqZ] at e); subst e) | (intro _ _ e e'; (first | rw [qqY] at e | rw [qqZ] at e); subst e; subst e'))))
        refine retP_ret (List.range 40) rfl (.cons _ _ _ _ ?_ (.cons _ _ _ _ (.pv _) .nil))
        rw [enc3]
        exact .agg _ _ (.cons _ _ _ _ (.pv _) (.cons _ _ _ _ (.pv _) (.cons _ _ _ _ (row_tc (xs := qs) (by decide) rfl rfl) .nil)))
      | true =>
        rw [hk, if_pos rfl] at hR
        obtain rfl : k = 10 := by simpa using hk
        have bad : (trt E id < 0 ∨ (qs : List Ty).length ≠ 1) → R = (.mk 10 id qs, false) := fun h => by rw [← hR]; exact nfP_bad h
        have hi1 := hin id
        cases hA : inR id 0 ((E.sy.length : Int) - 1) with
        | false =>
          rw [hA] at hi1
          obtain rfl := bad (.inl (trt_out (inR_f hA)))
          (repeat' (first | ((first | (with_reducible refine qqV fun C hC => ?_) | (with_reducible refine qqW fun C hC => ?_) | ((with_reducible intro C hC); (with_reducible refine qqX ?_))); (first | (simp only [go_sem, hlt, hwl, cells_enc, Ty.tc, kdZ, idZ, argsZ, bne, encSy_len, hk]; (first | ((with_reducible apply ACall.pure0 [] (hi1)); (focus (exact vwA)))))); (simp only [go_sem, hlt, hwl, cells_enc, Ty.tc, kdZ, idZ, argsZ, bne, encSy_len, hk]); ((with_reducible first | refine finA hC ?_ | refine finD hC ?_); clear hC C)) | ((with_reducible first | refine qqT fun C hC => ?_ | refine qqU fun C hC => ?_ | intro C hC); simp only [go_sem, hlt, hwl, cells_enc, Ty.tc, kdZ, idZ, argsZ, bne, encSy_len, hk]; ((with_reducible first | refine finA hC ?_ | refine finD hC ?_); clear hC C)) | (with_reducible first | refine qqA fun K hK => ?_ | refine qqB fun K hK => ?_ | refine qqC fun K hK => ?_ | (refine qqD ?_; refine hK _ _ ?_; try clear hK K) | (refine qqE ?_; refine hK _ _ _ ?_ ?_; (focus kernel_rfl); try clear hK K) | (refine qqF ?_; refine hK _ _ ?_; try clear hK K) | refine qqG ?_ | refine qqH ?_ | refine qqI ?_ | refine qqJ ?_ | refine qqK ?_ | (refine qqL ?_; try clear hK K) | (refine qqM ?_; try clear hK K) | refine qqN ?_ | refine qqO ?_ | (refine qqP ?_ ?_; focus decide)) | ((with_reducible first | apply qqQ | apply qqR | apply qqS); focus (simp only [go_sem, hlt, hwl, cells_enc, Ty.tc, kdZ, idZ, argsZ, bne, encSy_len, hk]; exact rfl)) | (with_reducible first | refine gk_tt ?_ | refine gk_ff ?_ | refine ck_t ?_ | refine ck_f ?_) | ((with_reducible first | refine gk_tf ?_ | refine gk_ft ?_ | refine gk_u ?_ | refine gk_u' ?_); first | (intro _ e; (first | rw [qqY] at e | rw [qqZ] at e); subst e) | (intro _ _ e e'; (first | rw [qqY] at e | rw [qqZ] at e); subst e; subst e'))))
          refine retP_ret (List.range 40) rfl (.cons _ _ _ _ ?_ (.cons _ _ _ _ (.pv _) .nil))
          rw [enc3]
          exact .agg _ _ (.cons _ _ _ _ (.pv _) (.cons _ _ _ _ (.pv _) (.cons _ _ _ _ (row_tc (xs := qs) (by decide) rfl rfl) .nil)))
        | true =>
          rw [hA] at hi1
          obtain ⟨g1, g2⟩ := inR_t hA
          obtain ⟨j, rfl⟩ := Int.eq_ofNat_of_zero_le g1
          have hj : j < E.sy.length := by omega
          have hs := List.getElem?_eq_getElem hj
          generalize E.sy[j] = s at hs
          have hat1 := encSy_get hs
          have ht := trt_at hs
          cases hB : (s.kd == 13) with
          | false =>
            rw [hB] at ht
            obtain rfl := bad (.inl (by rw [ht]; simp))
            (repeat' (first | ((first | (with_reducible refine qqV fun C hC => ?_) | (with_reducible refine qqW fun C hC => ?_) | ((with_reducible intro C hC); (with_reducible refine qqX ?_))); (first | (simp only [go_sem, hlt, hwl, cells_enc, Ty.tc, kdZ, idZ, argsZ, bne, encSy_len, hk, hat1, pcells_sy, hB]; (first | ((with_reducible apply ACall.pure0 [] (hi1)); (focus (exact vwA)))))); (simp only [go_sem, hlt, hwl, cells_enc, Ty.tc, kdZ, idZ, argsZ, bne, encSy_len, hk, hat1, pcells_sy, hB]); ((with_reducible first | refine finA hC ?_ | refine finD hC ?_); clear hC C)) | ((with_reducible first | refine qqT fun C hC => ?_ | refine qqU fun C hC => ?_ | intro C hC); simp only [go_sem, hlt, hwl, cells_enc, Ty.tc, kdZ, idZ, argsZ, bne, encSy_len, hk, hat1, pcells_sy, hB]; ((with_reducible first | refine finA hC ?_ | refine finD hC ?_); clear hC C)) | (with_reducible first | refine qqA fun K hK => ?_ | refine qqB fun K hK => ?_ | refine qqC fun K hK => ?_ | (refine qqD ?_; refine hK _ _ ?_; try clear hK K) | (refine qqE ?_; refine hK _ _ _ ?_ ?_; (focus kernel_rfl); try clear hK K) | (refine qqF ?_; refine hK _ _ ?_; try clear hK K) | refine qqG ?_ | refine qqH ?_ | refine qqI ?_ | refine qqJ ?_ | refine qqK ?_ | (refine qqL ?_; try clear hK K) | (refine qqM ?_; try clear hK K) | refine qqN ?_ | refine qqO ?_ | (refine qqP ?_ ?_; focus decide)) | ((with_reducible first | apply qqQ | apply qqR | apply qqS); focus (simp only [go_sem, hlt, hwl, cells_enc, Ty.tc, kdZ, idZ, argsZ, bne, encSy_len, hk, hat1, pcells_sy, hB]; exact rfl)) | (with_reducible first | refine gk_tt ?_ | refine gk_ff ?_ | refine ck_t ?_ | refine ck_f ?_) | ((with_reducible first | refine gk_tf ?_ | refine gk_ft ?_ | refine gk_u ?_ | refine gk_u' ?_); first | (intro _ e; (first | rw [qqY] at e | rw [qqZ] at e); subst e) | (intro _ _ e e'; (first | rw [qqY] at e | rw [qqZ] at e); subst e; subst e'))))
            refine retP_ret (List.range 40) rfl (.cons _ _ _ _ ?_ (.cons _ _ _ _ (.pv _) .nil))
            rw [enc3]
            exact .agg _ _ (.cons _ _ _ _ (.pv _) (.cons _ _ _ _ (.pv _) (.cons _ _ _ _ (row_tc (xs := qs) (by decide) rfl rfl) .nil)))
          | true =>
            cases hC : ((qs.length : Int) == 1) with
            | false =>
              have hC' : qs.length ≠ 1 := by rw [beq_eq_false_iff_ne] at hC; omega
              obtain rfl := bad (.inr hC')
              (repeat' (first | ((first | (with_reducible refine qqV fun C hC => ?_) | (with_reducible refine qqW fun C hC => ?_) | ((with_reducible intro C hC); (with_reducible refine qqX ?_))); (first | (simp only [go_sem, hlt, hwl, cells_enc, Ty.tc, kdZ, idZ, argsZ, bne, encSy_len, hk, hat1, pcells_sy, hB, hC]; (first | ((with_reducible apply ACall.pure0 [] (hi1)); (focus (exact vwA)))))); (simp only [go_sem, hlt, hwl, cells_enc, Ty.tc, kdZ, idZ, argsZ, bne, encSy_len, hk, hat1, pcells_sy, hB, hC]); ((with_reducible first | refine finA hC ?_ | refine finD hC ?_); clear hC C)) | ((with_reducible first | refine qqT fun C hC => ?_ | refine qqU fun C hC => ?_ | intro C hC); simp only [go_sem, hlt, hwl, cells_enc, Ty.tc, kdZ, idZ, argsZ, bne, encSy_len, hk, hat1, pcells_sy, hB, hC]; ((with_reducible first | refine finA hC ?_ | refine finD hC ?_); clear hC C)) | (with_reducible first | refine qqA fun K hK => ?_ | refine qqB fun K hK => ?_ | refine qqC fun K hK => ?_ | (refine qqD ?_; refine hK _ _ ?_; try clear hK K) | (refine qqE ?_; refine hK _ _ _ ?_ ?_; (focus kernel_rfl); try clear hK K) | (refine qqF ?_; refine hK _ _ ?_; try clear hK K) | refine qqG ?_ | refine qqH ?_ | refine qqI ?_ | refine qqJ ?_ | refine qqK ?_ | (refine qqL ?_; try clear hK K) | (refine qqM ?_; try clear hK K) | refine qqN ?_ | refine qqO ?_ | (refine qqP ?_ ?_; focus decide)) | ((with_reducible first | apply qqQ | apply qqR | apply qqS); focus (simp only [go_sem, hlt, hwl, cells_enc, Ty.tc, kdZ, idZ, argsZ, bne, encSy_len, hk, hat1, pcells_sy, hB, hC]; exact rfl)) | (with_reducible first | refine gk_tt ?_ | refine gk_ff ?_ | refine ck_t ?_ | refine ck_f ?_) | ((with_reducible first | refine gk_tf ?_ | refine gk_ft ?_ | refine gk_u ?_ | refine gk_u' ?_); first | (intro _ e; (first | rw [qqY] at e | rw [qqZ] at e); subst e) | (intro _ _ e e'; (first | rw [qqY] at e | rw [qqZ] at e); subst e; subst e'))))
              refine retP_ret (List.range 40) rfl (.cons _ _ _ _ ?_ (.cons _ _ _ _ (.pv _) .nil))
              rw [enc3]
              exact .agg _ _ (.cons _ _ _ _ (.pv _) (.cons _ _ _ _ (.pv _) (.cons _ _ _ _ (row_tc (xs := qs) (by decide) rfl rfl) .nil)))
            | true =>
              have hi2 := hin s.pr
              cases hD : inR s.pr 0 ((E.sy.length : Int) - 1) with
              | false =>
                rw [hD] at hi2
                obtain rfl := bad (.inl (by
                  rw [ht, hB]
                  simp only [Bool.not_true, Bool.false_eq_true, if_false]
                  by_cases h0 : decide (s.pr < 0) = true
                  · rw [if_pos h0]; omega
                  · rw [if_neg h0]
                    have h0' : ¬ s.pr < 0 := by simpa using h0
                    have := inR_f hD
                    rw [List.getElem?_eq_none (by omega)]; simp))
                (repeat' (first | ((first | (with_reducible refine qqV fun C hC => ?_) | (with_reducible refine qqW fun C hC => ?_) | ((with_reducible intro C hC); (with_reducible refine qqX ?_))); (first | (simp only [go_sem, hlt, hwl, cells_enc, Ty.tc, kdZ, idZ, argsZ, bne, encSy_len, hk, hat1, pcells_sy, hB, hC]; (first | ((with_reducible apply ACall.pure0 [] (hi1)); (focus (exact vwA))) | ((with_reducible apply ACall.pure0 [] (hi2)); (focus (exact vwA)))))); (simp only [go_sem, hlt, hwl, cells_enc, Ty.tc, kdZ, idZ, argsZ, bne, encSy_len, hk, hat1, pcells_sy, hB, hC]); ((with_reducible first | refine finA hC ?_ | refine finD hC ?_); clear hC C)) | ((with_reducible first | refine qqT fun C hC => ?_ | refine qqU fun C hC => ?_ | intro C hC); simp only [go_sem, hlt, hwl, cells_enc, Ty.tc, kdZ, idZ, argsZ, bne, encSy_len, hk, hat1, pcells_sy, hB, hC]; ((with_reducible first | refine finA hC ?_ | refine finD hC ?_); clear hC C)) | (with_reducible first | refine qqA fun K hK => ?_ | refine qqB fun K hK => ?_ | refine qqC fun K hK => ?_ | (refine qqD ?_; refine hK _ _ ?_; try clear hK K) | (refine qqE ?_; refine hK _ _ _ ?_ ?_; (focus kernel_rfl); try clear hK K) | (refine qqF ?_; refine hK _ _ ?_; try clear hK K) | refine qqG ?_ | refine qqH ?_ | refine qqI ?_ | refine qqJ ?_ | refine qqK ?_ | (refine qqL ?_; try clear hK K) | (refine qqM ?_; try clear hK K) | refine qqN ?_ | refine qqO ?_ | (refine qqP ?_ ?_; focus decide)) | ((with_reducible first | apply qqQ | apply qqR | apply qqS); focus (simp only [go_sem, hlt, hwl, cells_enc, Ty.tc, kdZ, idZ, argsZ, bne, encSy_len, hk, hat1, pcells_sy, hB, hC]; exact rfl)) | (with_reducible first | refine gk_tt ?_ | refine gk_ff ?_ | refine ck_t ?_ | refine ck_f ?_) | ((with_reducible first | refine gk_tf ?_ | refine gk_ft ?_ | refine gk_u ?_ | refine gk_u' ?_); first | (intro _ e; (first | rw [qqY] at e | rw [qqZ] at e); subst e) | (intro _ _ e e'; (first | rw [qqY] at e | rw [qqZ] at e); subst e; subst e'))))
                refine retP_ret (List.range 40) rfl (.cons _ _ _ _ ?_ (.cons _ _ _ _ (.pv _) .nil))
                rw [enc3]
                exact .agg _ _ (.cons _ _ _ _ (.pv _) (.cons _ _ _ _ (.pv _) (.cons _ _ _ _ (row_tc (xs := qs) (by decide) rfl rfl) .nil)))
              | true =>
                rw [hD] at hi2
                obtain ⟨g3, g4⟩ := inR_t hD
                obtain ⟨q, hq2⟩ := Int.eq_ofNat_of_zero_le g3
                have hqj : q < E.sy.length := by omega
                have hu := List.getElem?_eq_getElem hqj
                generalize E.sy[q] = u at hu
                have hat2 : (encSy E.sy)[s.pr.toNat]? = some u.enc := by rw [hq2, Int.toNat_natCast]; exact encSy_get hu
                have hpr0 : decide (s.pr < 0) = false := decide_eq_false (by omega)
                have ht2 : trt E (j : Int) = if !(u.kd == 5) then -1 else s.pr := by
                  rw [ht, hB, hpr0]
                  simp only [Bool.not_true, Bool.false_eq_true, if_false]
                  rw [hq2, Int.toNat_natCast, hu]
                cases hE : (u.kd == 5) with
                | false =>
                  rw [hE] at ht2
                  obtain rfl := bad (.inl (by rw [ht2]; simp))
                  (repeat' (first | ((first | (with_reducible refine qqV fun C hC => ?_) | (with_reducible refine qqW fun C hC => ?_) | ((with_reducible intro C hC); (with_reducible refine qqX ?_))); (first | (simp only [go_sem, hlt, hwl, cells_enc, Ty.tc, kdZ, idZ, argsZ, bne, encSy_len, hk, hat1, hat2, g3, pcells_sy, hB, hC, hE]; (first | ((with_reducible apply ACall.pure0 [] (hi1)); (focus (exact vwA))) | ((with_reducible apply ACall.pure0 [] (hi2)); (focus (exact vwA)))))); (simp only [go_sem, hlt, hwl, cells_enc, Ty.tc, kdZ, idZ, argsZ, bne, encSy_len, hk, hat1, hat2, g3, pcells_sy, hB, hC, hE]); ((with_reducible first | refine finA hC ?_ | refine finD hC ?_); clear hC C)) | ((with_reducible first | refine qqT fun C hC => ?_ | refine qqU fun C hC => ?_ | intro C hC); simp only [go_sem, hlt, hwl, cells_enc, Ty.tc, kdZ, idZ, argsZ, bne, encSy_len, hk, hat1, hat2, g3, pcells_sy, hB, hC, hE]; ((with_reducible first | refine finA hC ?_ | refine finD hC ?_); clear hC C)) | (with_reducible first | refine qqA fun K hK => ?_ | refine qqB fun K hK => ?_ | refine qqC fun K hK => ?_ | (refine qqD ?_; refine hK _ _ ?_; try clear hK K) | (refine qqE ?_; refine hK _ _ _ ?_ ?_; (focus kernel_rfl); try clear hK K) | (refine qqF ?_; refine hK _ _ ?_; try clear hK K) | refine qqG ?_ | refine qqH ?_ | refine qqI ?_ | refine qqJ ?_ | refine qqK ?_ | (refine qqL ?_; try clear hK K) | (refine qqM ?_; try clear hK K) | refine qqN ?_ | refine qqO ?_ | (refine qqP ?_ ?_; focus decide)) | ((with_reducible first | apply qqQ | apply qqR | apply qqS); focus (simp only [go_sem, hlt, hwl, cells_enc, Ty.tc, kdZ, idZ, argsZ, bne, encSy_len, hk, hat1, hat2, g3, pcells_sy, hB, hC, hE]; exact rfl)) | (with_reducible first | refine gk_tt ?_ | refine gk_ff ?_ | refine ck_t ?_ | refine ck_f ?_) | ((with_reducible first | refine gk_tf ?_ | refine gk_ft ?_ | refine gk_u ?_ | refine gk_u' ?_); first | (intro _ e; (first | rw [qqY] at e | rw [qqZ] at e); subst e) | (intro _ _ e e'; (first | rw [qqY] at e | rw [qqZ] at e); subst e; subst e'))))
                  refine retP_ret (List.range 40) rfl (.cons _ _ _ _ ?_ (.cons _ _ _ _ (.pv _) .nil))
                  rw [enc3]
                  exact .agg _ _ (.cons _ _ _ _ (.pv _) (.cons _ _ _ _ (.pv _) (.cons _ _ _ _ (row_tc (xs := qs) (by decide) rfl rfl) .nil)))
                | true =>
                  rw [hE] at ht2
                  simp only [Bool.not_true, Bool.false_eq_true, if_false] at ht2
                  clear bad ht
                  obtain ⟨a, rfl⟩ : ∃ a, qs = [a] := by
                    cases qs with
                    | nil => simp at hC
                    | cons a r => cases r with
                      | nil => exact ⟨a, rfl⟩
                      | cons b r => simp at hC; omega
                  rw [nfP_go (by rw [ht2]; exact of_decide_eq_false hpr0), ht2] at hR
                  have hsp : PCall Try.prog 27 [.list 7 (encDc E.ds), .list 4 (encTb E.az), a.enc, ii s.pr, ii 8] (solV (sol E.ds E.az 8 a s.pr)) := sp_ok E.ds E.az hds 8 (by omega) a s.pr
                  rw [enc3 a] at hsp
                  have hone : (((1 : Nat) : Int) == 1) = true := rfl
                  cases hso : sol E.ds E.az 8 a s.pr with
                  | none =>
                    rw [hso] at hsp hR
                    simp only [solV] at hsp
                    simp only at hR
                    subst hR
                    (repeat' (first | ((first | (with_reducible refine qqV fun C hC => ?_) | (with_reducible refine qqW fun C hC => ?_) | ((with_reducible intro C hC); (with_reducible refine qqX ?_))); (first | (simp only [go_sem, hlt, hwl, cells_enc, Ty.tc, kdZ, idZ, argsZ, bne, encSy_len, hk, hat1, hat2, g3, pcells_sy, hB, hone, hE, List.map_cons, List.map_nil, List.length_cons, List.length_nil, cells_prf, Prf.tc, scal_prf]; (first | ((with_reducible apply ACall.pure0 [] (hi1)); (focus (exact vwA))) | ((with_reducible apply ACall.pure0 [] (hi2)); (focus (exact vwA))) | ((with_reducible apply ACall.pure0 [] (hsp)); (focus (exact vwA)))))); (simp only [go_sem, hlt, hwl, cells_enc, Ty.tc, kdZ, idZ, argsZ, bne, encSy_len, hk, hat1, hat2, g3, pcells_sy, hB, hone, hE, List.map_cons, List.map_nil, List.length_cons, List.length_nil, cells_prf, Prf.tc, scal_prf]); ((with_reducible first | refine finA hC ?_ | refine finD hC ?_); clear hC C)) | ((with_reducible first | refine qqT fun C hC => ?_ | refine qqU fun C hC => ?_ | intro C hC); simp only [go_sem, hlt, hwl, cells_enc, Ty.tc, kdZ, idZ, argsZ, bne, encSy_len, hk, hat1, hat2, g3, pcells_sy, hB, hone, hE, List.map_cons, List.map_nil, List.length_cons, List.length_nil, cells_prf, Prf.tc, scal_prf]; ((with_reducible first | refine finA hC ?_ | refine finD hC ?_); clear hC C)) | (with_reducible first | refine qqA fun K hK => ?_ | refine qqB fun K hK => ?_ | refine qqC fun K hK => ?_ | (refine qqD ?_; refine hK _ _ ?_; try clear hK K) | (refine qqE ?_; refine hK _ _ _ ?_ ?_; (focus kernel_rfl); try clear hK K) | (refine qqF ?_; refine hK _ _ ?_; try clear hK K) | refine qqG ?_ | refine qqH ?_ | refine qqI ?_ | refine qqJ ?_ | refine qqK ?_ | (refine qqL ?_; try clear hK K) | (refine qqM ?_; try clear hK K) | refine qqN ?_ | refine qqO ?_ | (refine qqP ?_ ?_; focus decide)) | ((with_reducible first | apply qqQ | apply qqR | apply qqS); focus (simp only [go_sem, hlt, hwl, cells_enc, Ty.tc, kdZ, idZ, argsZ, bne, encSy_len, hk, hat1, hat2, g3, pcells_sy, hB, hone, hE, List.map_cons, List.map_nil, List.length_cons, List.length_nil, cells_prf, Prf.tc, scal_prf]; exact rfl)) | (with_reducible first | refine gk_tt ?_ | refine gk_ff ?_ | refine ck_t ?_ | refine ck_f ?_) | ((with_reducible first | refine gk_tf ?_ | refine gk_ft ?_ | refine gk_u ?_ | refine gk_u' ?_); first | (intro _ e; (first | rw [qqY] at e | rw [qqZ] at e); subst e) | (intro _ _ e e'; (first | rw [qqY] at e | rw [qqZ] at e); subst e; subst e'))))
                    refine retP_ret (List.range 40) rfl (.cons _ _ _ _ ?_ (.cons _ _ _ _ (.pv _) .nil))
                    rw [enc3]
                    exact .agg _ _ (.cons _ _ _ _ (.pv _) (.cons _ _ _ _ (.pv _) (.cons _ _ _ _ (row_tc (xs := [a]) (by decide) rfl rfl) .nil)))
                  | some p =>
                    rw [hso] at hsp hR
                    simp only [solV] at hsp
                    simp only at hR
                    cases hF : decide (p.im < 0) with
                    | true =>
                      rw [hF, if_pos rfl] at hR
                      subst hR
                      (repeat' (first | ((first | (with_reducible refine qqV fun C hC => ?_) | (with_reducible refine qqW fun C hC => ?_) | ((with_reducible intro C hC); (with_reducible refine qqX ?_))); (first | (simp only [go_sem, hlt, hwl, cells_enc, Ty.tc, kdZ, idZ, argsZ, bne, encSy_len, hk, hat1, hat2, g3, pcells_sy, hB, hone, hE, List.map_cons, List.map_nil, List.length_cons, List.length_nil, cells_prf, Prf.tc, scal_prf, hF]; (first | ((with_reducible apply ACall.pure0 [] (hi1)); (focus (exact vwA))) | ((with_reducible apply ACall.pure0 [] (hi2)); (focus (exact vwA))) | ((with_reducible apply ACall.pure0 [] (hsp)); (focus (exact vwA)))))); (simp only [go_sem, hlt, hwl, cells_enc, Ty.tc, kdZ, idZ, argsZ, bne, encSy_len, hk, hat1, hat2, g3, pcells_sy, hB, hone, hE, List.map_cons, List.map_nil, List.length_cons, List.length_nil, cells_prf, Prf.tc, scal_prf, hF]); ((with_reducible first | refine finA hC ?_ | refine finD hC ?_); clear hC C)) | ((with_reducible first | refine qqT fun C hC => ?_ | refine qqU fun C hC => ?_ | intro C hC); simp only [go_sem, hlt, hwl, cells_enc, Ty.tc, kdZ, idZ, argsZ, bne, encSy_len, hk, hat1, hat2, g3, pcells_sy, hB, hone, hE, List.map_cons, List.map_nil, List.length_cons, List.length_nil, cells_prf, Prf.tc, scal_prf, hF]; ((with_reducible first | refine finA hC ?_ | refine finD hC ?_); clear hC C)) | (with_reducible first | refine qqA fun K hK => ?_ | refine qqB fun K hK => ?_ | refine qqC fun K hK => ?_ | (refine qqD ?_; refine hK _ _ ?_; try clear hK K) | (refine qqE ?_; refine hK _ _ _ ?_ ?_; (focus kernel_rfl); try clear hK K) | (refine qqF ?_; refine hK _ _ ?_; try clear hK K) | refine qqG ?_ | refine qqH ?_ | refine qqI ?_ | refine qqJ ?_ | refine qqK ?_ | (refine qqL ?_; try clear hK K) | (refine qqM ?_; try clear hK K) | refine qqN ?_ | refine qqO ?_ | (refine qqP ?_ ?_; focus decide)) | ((with_reducible first | apply qqQ | apply qqR | apply qqS); focus (simp only [go_sem, hlt, hwl, cells_enc, Ty.tc, kdZ, idZ, argsZ, bne, encSy_len, hk, hat1, hat2, g3, pcells_sy, hB, hone, hE, List.map_cons, List.map_nil, List.length_cons, List.length_nil, cells_prf, Prf.tc, scal_prf, hF]; exact rfl)) | (with_reducible first | refine gk_tt ?_ | refine gk_ff ?_ | refine ck_t ?_ | refine ck_f ?_) | ((with_reducible first | refine gk_tf ?_ | refine gk_ft ?_ | refine gk_u ?_ | refine gk_u' ?_); first | (intro _ e; (first | rw [qqY] at e | rw [qqZ] at e); subst e) | (intro _ _ e e'; (first | rw [qqY] at e | rw [qqZ] at e); subst e; subst e'))))
                      refine retP_ret (List.range 40) rfl (.cons _ _ _ _ ?_ (.cons _ _ _ _ (.pv _) .nil))
                      rw [enc3]
                      exact .agg _ _ (.cons _ _ _ _ (.pv _) (.cons _ _ _ _ (.pv _) (.cons _ _ _ _ (row_tc (xs := [a]) (by decide) rfl rfl) .nil)))
                    | false =>
                      rw [hF, if_neg (by simp)] at hR
                      obtain ⟨i2, d2, hi3, hd2, hps⟩ := sol_len hso (of_decide_eq_false hF)
                      (repeat' (first | ((first | (with_reducible refine qqV fun C hC => ?_) | (with_reducible refine qqW fun C hC => ?_) | ((with_reducible intro C hC); (with_reducible refine qqX ?_))); (first | (simp only [go_sem, hlt, hwl, cells_enc, Ty.tc, kdZ, idZ, argsZ, bne, encSy_len, hk, hat1, hat2, g3, pcells_sy, hB, hone, hE, List.map_cons, List.map_nil, List.length_cons, List.length_nil, cells_prf, Prf.tc, scal_prf, hF]; (first | ((with_reducible apply ACall.pure0 [] (hi1)); (focus (exact vwA))) | ((with_reducible apply ACall.pure0 [] (hi2)); (focus (exact vwA))) | ((with_reducible apply ACall.pure0 [] (hsp)); (focus (exact vwA)))))); (simp only [go_sem, hlt, hwl, cells_enc, Ty.tc, kdZ, idZ, argsZ, bne, encSy_len, hk, hat1, hat2, g3, pcells_sy, hB, hone, hE, List.map_cons, List.map_nil, List.length_cons, List.length_nil, cells_prf, Prf.tc, scal_prf, hF]); ((with_reducible first | refine finA hC ?_ | refine finD hC ?_); clear hC C)) | ((with_reducible first | refine qqT fun C hC => ?_ | refine qqU fun C hC => ?_ | intro C hC); simp only [go_sem, hlt, hwl, cells_enc, Ty.tc, kdZ, idZ, argsZ, bne, encSy_len, hk, hat1, hat2, g3, pcells_sy, hB, hone, hE, List.map_cons, List.map_nil, List.length_cons, List.length_nil, cells_prf, Prf.tc, scal_prf, hF]; ((with_reducible first | refine finA hC ?_ | refine finD hC ?_); clear hC C)) | (with_reducible first | refine qqA fun K hK => ?_ | refine qqB fun K hK => ?_ | refine qqC fun K hK => ?_ | (refine qqD ?_; refine hK _ _ ?_; try clear hK K) | (refine qqE ?_; refine hK _ _ _ ?_ ?_; (focus kernel_rfl); try clear hK K) | (refine qqF ?_; refine hK _ _ ?_; try clear hK K) | refine qqG ?_ | refine qqH ?_ | refine qqI ?_ | refine qqJ ?_ | refine qqK ?_ | (refine qqL ?_; try clear hK K) | (refine qqM ?_; try clear hK K) | refine qqN ?_ | refine qqO ?_ | (refine qqP ?_ ?_; focus decide)) | ((with_reducible first | apply qqQ | apply qqR | apply qqS); focus (simp only [go_sem, hlt, hwl, cells_enc, Ty.tc, kdZ, idZ, argsZ, bne, encSy_len, hk, hat1, hat2, g3, pcells_sy, hB, hone, hE, List.map_cons, List.map_nil, List.length_cons, List.length_nil, cells_prf, Prf.tc, scal_prf, hF]; exact rfl)) | (with_reducible first | refine gk_tt ?_ | refine gk_ff ?_ | refine ck_t ?_ | refine ck_f ?_) | ((with_reducible first | refine gk_tf ?_ | refine gk_ft ?_ | refine gk_u ?_ | refine gk_u' ?_); first | (intro _ e; (first | rw [qqY] at e | rw [qqZ] at e); subst e) | (intro _ _ e e'; (first | rw [qqY] at e | rw [qqZ] at e); subst e; subst e'))))
                      refine awp_loop_k _ (LeB [0, 1, 2, 3, 4] (by refine ⟨?_, ?_, ?_⟩ <;> simp only [leFr, leFb, leHp, V.ren, V.renL, V.bd, V.bdL, allL, lt, Go.Ab.get, hget, List.map_cons, List.map_nil, List.length_cons, List.length_nil, List.length_append, List.getElem?_cons_zero, List.getElem?_cons_succ, List.getElem?_nil, Option.join_some, Option.join_none, List.getD_cons_zero, List.getD_cons_succ, List.getD_nil, Nat.reduceAdd, Nat.reduceLT, Nat.reduceEqDiff, Nat.zero_add, reduceIte, if_true, if_false, and_true, true_and, renL_vcells, allL_vcells, renL_pv, leBlk_some, eq_self, true_or, or_true, reduceCtorEq, false_or, c0, allL, Ty.tc])) (nf_l1 hlen hsl hnm (a := a) rfl hs hi3 hd2 hps hprev (R := R) (fun h => ?_) (fun h h0 => ?_) (fun k hk h => ?_) hK E.sy [] rfl ?_)
                      · rw [if_pos (by simpa using h)] at hR; exact hR.symm
                      · rw [if_neg (by simpa using h)] at hR
                        subst h0; exact hR.symm
                      · rw [if_neg (by simpa using h)] at hR
                        subst hk; exact hR.symm
                      · unfold memI nmO
                        rw [Int.toNat_natCast, hs]; rfl
    | cons t rest ih =>
      intro pre qs hpre hq
      have hlt : decide ((pre.length : Int) < (ss.length : Int)) = true := by rw [← hpre]; exact lt_app _ _ _
      have hat : (encL ss)[pre.length]? = some t.enc := by rw [← hpre]; exact encL_at _ _ _
      have hql := nfrL_length hq
      have hb : qs.length + 1 ≤ big := by have := congrArg List.length hpre; simp at this; unfold big; omega
      have hw := wrapS (n := pre.length) (by have := congrArg List.length hpre; simp at this; omega)
      have hc := hrec t (by rw [← hpre]; simp)
      have ha := nfrL_app (t := t) (rest := rest) hq
      rw [hpre] at ha
      rw [enc3 t] at hc
      refine loopN_k fun K1 hK1 => ?_
      unfold ac38_l0
      cases ho : (nfrT (nfP E n) t).2 with
      | false =>
        rw [ho] at ha hc
        rw [if_neg (by simp)] at ha
        rw [ha] at hR
        simp only at hR
        subst hR
        rw [enc3 (nfrT (nfP E n) t).1] at hc
        (repeat' (first | ((first | (with_reducible refine qqV fun C hC => ?_) | (with_reducible refine qqW fun C hC => ?_) | ((with_reducible intro C hC); (with_reducible refine qqX ?_))); (first | (simp only [go_sem, hlt, hat, cells_enc, pcells_enc, Ty.tc]; (first | ((with_reducible apply ACall.pure0 [] (hc)); (focus (exact vwA)))))); (simp only [go_sem, hlt, hat, cells_enc, pcells_enc, Ty.tc]); ((with_reducible first | refine finA hC ?_ | refine finD hC ?_); clear hC C)) | ((with_reducible first | refine qqT fun C hC => ?_ | refine qqU fun C hC => ?_ | intro C hC); simp only [go_sem, hlt, hat, cells_enc, pcells_enc, Ty.tc]; ((with_reducible first | refine finA hC ?_ | refine finD hC ?_); clear hC C)) | (with_reducible first | refine qqA fun K hK => ?_ | refine qqB fun K hK => ?_ | refine qqC fun K hK => ?_ | (refine qqD ?_; refine hK _ _ ?_; try clear hK K) | (refine qqE ?_; refine hK _ _ _ ?_ ?_; (focus kernel_rfl); try clear hK K) | (refine qqF ?_; refine hK _ _ ?_; try clear hK K) | refine qqG ?_ | refine qqH ?_ | refine qqI ?_ | refine qqJ ?_ | refine qqK ?_ | (refine qqL ?_; try clear hK K) | (refine qqM ?_; try clear hK K) | refine qqN ?_ | refine qqO ?_ | (refine qqP ?_ ?_; focus decide)) | ((with_reducible first | apply qqQ | apply qqR | apply qqS); focus (simp only [go_sem, hlt, hat, cells_enc, pcells_enc, Ty.tc]; exact rfl)) | (with_reducible first | refine gk_tt ?_ | refine gk_ff ?_ | refine ck_t ?_ | refine ck_f ?_) | ((with_reducible first | refine gk_tf ?_ | refine gk_ft ?_ | refine gk_u ?_ | refine gk_u' ?_); first | (intro _ e; (first | rw [qqY] at e | rw [qqZ] at e); subst e) | (intro _ _ e e'; (first | rw [qqY] at e | rw [qqZ] at e); subst e; subst e'))))
        refine retP_ret (List.range 40) rfl (.cons _ _ _ _ ?_ (.cons _ _ _ _ (.pv _) .nil))
        rw [enc3]
        exact .agg _ _ (.cons _ _ _ _ (.pv _) (.cons _ _ _ _ (.pv _) (.cons _ _ _ _ (.pv _) .nil)))
      | true =>
        have hq2 := nfrL_one hq ho
        rw [ho, enc3 (nfrT (nfP E n) t).1] at hc
        (repeat' (first | ((first | (with_reducible refine qqV fun C hC => ?_) | (with_reducible refine qqW fun C hC => ?_) | ((with_reducible intro C hC); (with_reducible refine qqX ?_))); (first | (simp only [go_sem, hlt, hat, cells_enc, pcells_enc, Ty.tc, List.length_map, hb]; (first | ((with_reducible apply ACall.pure0 [] (hc)); (focus (exact vwA)))))); (simp only [go_sem, hlt, hat, cells_enc, pcells_enc, Ty.tc, List.length_map, hb]); ((with_reducible first | refine finA hC ?_ | refine finD hC ?_); clear hC C)) | ((with_reducible first | refine qqT fun C hC => ?_ | refine qqU fun C hC => ?_ | intro C hC); simp only [go_sem, hlt, hat, cells_enc, pcells_enc, Ty.tc, List.length_map, hb]; ((with_reducible first | refine finA hC ?_ | refine finD hC ?_); clear hC C)) | (with_reducible first | refine qqA fun K hK => ?_ | refine qqB fun K hK => ?_ | refine qqC fun K hK => ?_ | (refine qqD ?_; refine hK _ _ ?_; try clear hK K) | (refine qqE ?_; refine hK _ _ _ ?_ ?_; (focus kernel_rfl); try clear hK K) | (refine qqF ?_; refine hK _ _ ?_; try clear hK K) | refine qqG ?_ | refine qqH ?_ | refine qqI ?_ | refine qqJ ?_ | refine qqK ?_ | (refine qqL ?_; try clear hK K) | (refine qqM ?_; try clear hK K) | refine qqN ?_ | refine qqO ?_ | (refine qqP ?_ ?_; focus decide)) | ((with_reducible first | apply qqQ | apply qqR | apply qqS); focus (simp only [go_sem, hlt, hat, cells_enc, pcells_enc, Ty.tc, List.length_map, hb]; exact rfl)) | (with_reducible first | refine gk_tt ?_ | refine gk_ff ?_ | refine ck_t ?_ | refine ck_f ?_) | ((with_reducible first | refine gk_tf ?_ | refine gk_ft ?_ | refine gk_u ?_ | refine gk_u' ?_); first | (intro _ e; (first | rw [qqY] at e | rw [qqZ] at e); subst e) | (intro _ _ e e'; (first | rw [qqY] at e | rw [qqZ] at e); subst e; subst e'))))
        refine qqF ?_
        refine hK1 _ _ _ _ _ (LeB [0, 1, 2, 7] (by refine ⟨?_, ?_, ?_⟩ <;> simp only [leFr, leFb, leHp, V.ren, V.renL, V.bd, V.bdL, allL, lt, Go.Ab.get, hget, List.map_cons, List.map_nil, List.length_cons, List.length_nil, List.length_append, List.getElem?_cons_zero, List.getElem?_cons_succ, List.getElem?_nil, Option.join_some, Option.join_none, List.getD_cons_zero, List.getD_cons_succ, List.getD_nil, Nat.reduceAdd, Nat.reduceLT, Nat.reduceEqDiff, Nat.zero_add, reduceIte, if_true, if_false, and_true, true_and, renL_vcells, allL_vcells, renL_pv, leBlk_some, eq_self, true_or, or_true, reduceCtorEq, false_or, hw, List.length_append, List.map_append, List.map_cons, List.map_nil, renL_tc, renL_tc1, allL_tc, allL_app, bdL_tc, allL, Ty.tc])) (ih (pre ++ [t]) (qs ++ [(nfrT (nfP E n) t).1]) (by simp [hpre]) hq2)
  have first : loopN (awp Try.prog ac38_l0) (catch_ 0 (thn K (retP [RV.cell 10 3 true, RV.tmp 11] [R.1.enc, bb R.2]))) (ss.length + 1)
      [(25, .pv (ii 0)), (24, .pv (ii ss.length)), (23, .pv (.list 3 (encL ss))), (12, .pv (.lit (.slice none 0 0))), (10, .ptr 2 0 0), (8, .ptr 1 0 0), (5, .ptr 0 0 0), (4, .pv (ii m)), (2, .pv (.list 4 (encTb E.az))), (1, .pv (.list 7 (encDc E.ds)))] [some ⟨false, 50, 3, [[.pv (.list 6 (encSy E.sy)), .pv E.r1, .pv E.r2]], none⟩, some ⟨false, 26, 3, [[.pv (ii k), .pv (ii id), .pv (.list 3 (encL ss))]], none⟩, some ⟨false, 26, 3, [[.pv (ii 0), .pv (ii 0), .pv (.lit (.slice none 0 0))]], none⟩] := by
    cases hs0 : ss with
    | nil =>
      have hq : nfrL (nfP E n) [] = .inr [] := rfl
      have hlt : decide ((0 : Int) < (([] : List Ty).length : Int)) = false := rfl
      refine loopN_k fun K1 hK1 => ?_
      unfold ac38_l0
      rw [hs0] at hR
      rw [hq] at hR
      simp only at hR
      cases hk : (k == 10) with
      | false =>
        rw [hk, if_neg (by simp)] at hR
        subst hR
        (repeat' (first | ((with_reducible first | refine qqT fun C hC => ?_ | refine qqU fun C hC => ?_ | intro C hC); simp only [go_sem, hlt, hwl, cells_enc, Ty.tc, kdZ, idZ, argsZ, bne, encSy_len, hk]; ((with_reducible first | refine finA hC ?_ | refine finD hC ?_); clear hC C)) | (with_reducible first | refine qqA fun K hK => ?_ | refine qqB fun K hK => ?_ | refine qqC fun K hK => ?_ | (refine qqD ?_; refine hK _ _ ?_; try clear hK K) | (refine qqE ?_; refine hK _ _ _ ?_ ?_; (focus kernel_rfl); try clear hK K) | (refine qqF ?_; refine hK _ _ ?_; try clear hK K) | refine qqG ?_ | refine qqH ?_ | refine qqI ?_ | refine qqJ ?_ | refine qqK ?_ | (refine qqL ?_; try clear hK K) | (refine qqM ?_; try clear hK K) | refine qqN ?_ | refine qqO ?_ | (refine qqP ?_ ?_; focus decide)) | ((with_reducible first | apply qqQ | apply qqR | apply qqS); focus (simp only [go_sem, hlt, hwl, cells_enc, Ty.tc, kdZ, idZ, argsZ, bne, encSy_len, hk]; exact rfl)) | (with_reducible first | refine gk_tt ?_ | refine gk_ff ?_ | refine ck_t ?_ | refine ck_f ?_) | ((with_reducible first | refine gk_tf ?_ | refine gk_ft ?_ | refine gk_u ?_ | refine gk_u' ?_); first | (intro _ e; (first | rw [qqY] at e | rw [qqZ] at e); subst e) | (intro _ _ e e'; (first | rw [qqY] at e | rw [qqZ] at e); subst e; subst e'))))
        refine retP_ret (List.range 40) rfl (.cons _ _ _ _ ?_ (.cons _ _ _ _ (.pv _) .nil))
        rw [enc3]
        exact .agg _ _ (.cons _ _ _ _ (.pv _) (.cons _ _ _ _ (.pv _) (.cons _ _ _ _ (Vw_nil) .nil)))
      | true =>
        rw [hk, if_pos rfl] at hR
        obtain rfl : k = 10 := by simpa using hk
        have bad : (trt E id < 0 ∨ ([] : List Ty).length ≠ 1) → R = (.mk 10 id [], false) := fun h => by rw [← hR]; exact nfP_bad h
        have hi1 := hin id
        cases hA : inR id 0 ((E.sy.length : Int) - 1) with
        | false =>
          rw [hA] at hi1
          obtain rfl := bad (.inl (trt_out (inR_f hA)))
          (repeat' (first | ((first | (with_reducible refine qqV fun C hC => ?_) | (with_reducible refine qqW fun C hC => ?_) | ((with_reducible intro C hC); (with_reducible refine qqX ?_))); (first | (simp only [go_sem, hlt, hwl, cells_enc, Ty.tc, kdZ, idZ, argsZ, bne, encSy_len, hk]; (first | ((with_reducible apply ACall.pure0 [] (hi1)); (focus (exact vwA)))))); (simp only [go_sem, hlt, hwl, cells_enc, Ty.tc, kdZ, idZ, argsZ, bne, encSy_len, hk]); ((with_reducible first | refine finA hC ?_ | refine finD hC ?_); clear hC C)) | ((with_reducible first | refine qqT fun C hC => ?_ | refine qqU fun C hC => ?_ | intro C hC); simp only [go_sem, hlt, hwl, cells_enc, Ty.tc, kdZ, idZ, argsZ, bne, encSy_len, hk]; ((with_reducible first | refine finA hC ?_ | refine finD hC ?_); clear hC C)) | (with_reducible first | refine qqA fun K hK => ?_ | refine qqB fun K hK => ?_ | refine qqC fun K hK => ?_ | (refine qqD ?_; refine hK _ _ ?_; try clear hK K) | (refine qqE ?_; refine hK _ _ _ ?_ ?_; (focus kernel_rfl); try clear hK K) | (refine qqF ?_; refine hK _ _ ?_; try clear hK K) | refine qqG ?_ | refine qqH ?_ | refine qqI ?_ | refine qqJ ?_ | refine qqK ?_ | (refine qqL ?_; try clear hK K) | (refine qqM ?_; try clear hK K) | refine qqN ?_ | refine qqO ?_ | (refine qqP ?_ ?_; focus decide)) | ((with_reducible first | apply qqQ | apply qqR | apply qqS); focus (simp only [go_sem, hlt, hwl, cells_enc, Ty.tc, kdZ, idZ, argsZ, bne, encSy_len, hk]; exact rfl)) | (with_reducible first | refine gk_tt ?_ | refine gk_ff ?_ | refine ck_t ?_ | refine ck_f ?_) | ((with_reducible first | refine gk_tf ?_ | refine gk_ft ?_ | refine gk_u ?_ | refine gk_u' ?_); first | (intro _ e; (first | rw [qqY] at e | rw [qqZ] at e); subst e) | (intro _ _ e e'; (first | rw [qqY] at e | rw [qqZ] at e); subst e; subst e'))))
          refine retP_ret (List.range 40) rfl (.cons _ _ _ _ ?_ (.cons _ _ _ _ (.pv _) .nil))
          rw [enc3]
          exact .agg _ _ (.cons _ _ _ _ (.pv _) (.cons _ _ _ _ (.pv _) (.cons _ _ _ _ (Vw_nil) .nil)))
        | true =>
          rw [hA] at hi1
          obtain ⟨g1, g2⟩ := inR_t hA
          obtain ⟨j, rfl⟩ := Int.eq_ofNat_of_zero_le g1
          have hj : j < E.sy.length := by omega
          have hs := List.getElem?_eq_getElem hj
          generalize E.sy[j] = s at hs
          have hat1 := encSy_get hs
          have ht := trt_at hs
          cases hB : (s.kd == 13) with
          | false =>
            rw [hB] at ht
            obtain rfl := bad (.inl (by rw [ht]; simp))
            (repeat' (first | ((first | (with_reducible refine qqV fun C hC => ?_) | (with_reducible refine qqW fun C hC => ?_) | ((with_reducible intro C hC); (with_reducible refine qqX ?_))); (first | (simp only [go_sem, hlt, hwl, cells_enc, Ty.tc, kdZ, idZ, argsZ, bne, encSy_len, hk, hat1, pcells_sy, hB]; (first | ((with_reducible apply ACall.pure0 [] (hi1)); (focus (exact vwA)))))); (simp only [go_sem, hlt, hwl, cells_enc, Ty.tc, kdZ, idZ, argsZ, bne, encSy_len, hk, hat1, pcells_sy, hB]); ((with_reducible first | refine finA hC ?_ | refine finD hC ?_); clear hC C)) | ((with_reducible first | refine qqT fun C hC => ?_ | refine qqU fun C hC => ?_ | intro C hC); simp only [go_sem, hlt, hwl, cells_enc, Ty.tc, kdZ, idZ, argsZ, bne, encSy_len, hk, hat1, pcells_sy, hB]; ((with_reducible first | refine finA hC ?_ | refine finD hC ?_); clear hC C)) | (with_reducible first | refine qqA fun K hK => ?_ | refine qqB fun K hK => ?_ | refine qqC fun K hK => ?_ | (refine qqD ?_; refine hK _ _ ?_; try clear hK K) | (refine qqE ?_; refine hK _ _ _ ?_ ?_; (focus kernel_rfl); try clear hK K) | (refine qqF ?_; refine hK _ _ ?_; try clear hK K) | refine qqG ?_ | refine qqH ?_ | refine qqI ?_ | refine qqJ ?_ | refine qqK ?_ | (refine qqL ?_; try clear hK K) | (refine qqM ?_; try clear hK K) | refine qqN ?_ | refine qqO ?_ | (refine qqP ?_ ?_; focus decide)) | ((with_reducible first | apply qqQ | apply qqR | apply qqS); focus (simp only [go_sem, hlt, hwl, cells_enc, Ty.tc, kdZ, idZ, argsZ, bne, encSy_len, hk, hat1, pcells_sy, hB]; exact rfl)) | (with_reducible first | refine gk_tt ?_ | refine gk_ff ?_ | refine ck_t ?_ | refine ck_f ?_) | ((with_reducible first | refine gk_tf ?_ | refine gk_ft ?_ | refine gk_u ?_ | refine gk_u' ?_); first | (intro _ e; (first | rw [qqY] at e | rw [qqZ] at e); subst e) | (intro _ _ e e'; (first | rw [qqY] at e | rw [qqZ] at e); subst e; subst e'))))
            refine retP_ret (List.range 40) rfl (.cons _ _ _ _ ?_ (.cons _ _ _ _ (.pv _) .nil))
            rw [enc3]
            exact .agg _ _ (.cons _ _ _ _ (.pv _) (.cons _ _ _ _ (.pv _) (.cons _ _ _ _ (Vw_nil) .nil)))
          | true =>
            obtain rfl := bad (.inr (by simp))
            (repeat' (first | ((first | (with_reducible refine qqV fun C hC => ?_) | (with_reducible refine qqW fun C hC => ?_) | ((with_reducible intro C hC); (with_reducible refine qqX ?_))); (first | (simp only [go_sem, hlt, hwl, cells_enc, Ty.tc, kdZ, idZ, argsZ, bne, encSy_len, hk, hat1, pcells_sy, hB, List.length_nil]; (first | ((with_reducible apply ACall.pure0 [] (hi1)); (focus (exact vwA)))))); (simp only [go_sem, hlt, hwl, cells_enc, Ty.tc, kdZ, idZ, argsZ, bne, encSy_len, hk, hat1, pcells_sy, hB, List.length_nil]); ((with_reducible first | refine finA hC ?_ | refine finD hC ?_); clear hC C)) | ((with_reducible first | refine qqT fun C hC => ?_ | refine qqU fun C hC => ?_ | intro C hC); simp only [go_sem, hlt, hwl, cells_enc, Ty.tc, kdZ, idZ, argsZ, bne, encSy_len, hk, hat1, pcells_sy, hB, List.length_nil]; ((with_reducible first | refine finA hC ?_ | refine finD hC ?_); clear hC C)) | (with_reducible first | refine qqA fun K hK => ?_ | refine qqB fun K hK => ?_ | refine qqC fun K hK => ?_ | (refine qqD ?_; refine hK _ _ ?_; try clear hK K) | (refine qqE ?_; refine hK _ _ _ ?_ ?_; (focus kernel_rfl); try clear hK K) | (refine qqF ?_; refine hK _ _ ?_; try clear hK K) | refine qqG ?_ | refine qqH ?_ | refine qqI ?_ | refine qqJ ?_ | refine qqK ?_ | (refine qqL ?_; try clear hK K) | (refine qqM ?_; try clear hK K) | refine qqN ?_ | refine qqO ?_ | (refine qqP ?_ ?_; focus decide)) | ((with_reducible first | apply qqQ | apply qqR | apply qqS); focus (simp only [go_sem, hlt, hwl, cells_enc, Ty.tc, kdZ, idZ, argsZ, bne, encSy_len, hk, hat1, pcells_sy, hB, List.length_nil]; exact rfl)) | (with_reducible first | refine gk_tt ?_ | refine gk_ff ?_ | refine ck_t ?_ | refine ck_f ?_) | ((with_reducible first | refine gk_tf ?_ | refine gk_ft ?_ | refine gk_u ?_ | refine gk_u' ?_); first | (intro _ e; (first | rw [qqY] at e | rw [qqZ] at e); subst e) | (intro _ _ e e'; (first | rw [qqY] at e | rw [qqZ] at e); subst e; subst e'))))
            refine retP_ret (List.range 40) rfl (.cons _ _ _ _ ?_ (.cons _ _ _ _ (.pv _) .nil))
            rw [enc3]
            exact .agg _ _ (.cons _ _ _ _ (.pv _) (.cons _ _ _ _ (.pv _) (.cons _ _ _ _ (Vw_nil) .nil)))
    | cons t rest =>
      have hlt : decide ((0 : Int) < ((t :: rest).length : Int)) = true := by simp
      have hat : (encL (t :: rest))[0]? = some t.enc := rfl
      have hc := hrec t (by rw [hs0]; simp)
      have ha := nfrL_app (g := nfP E n) (t := t) (rest := rest) (pre := []) (qs := []) rfl
      rw [List.nil_append, ← hs0] at ha
      rw [enc3 t] at hc
      rw [hs0] at rows
      refine loopN_k fun K1 hK1 => ?_
      unfold ac38_l0
      cases ho : (nfrT (nfP E n) t).2 with
      | false =>
        rw [ho] at ha hc
        rw [if_neg (by simp)] at ha
        rw [ha] at hR
        simp only at hR
        subst hR
        rw [enc3 (nfrT (nfP E n) t).1] at hc
        (repeat' (first | ((first | (with_reducible refine qqV fun C hC => ?_) | (with_reducible refine qqW fun C hC => ?_) | ((with_reducible intro C hC); (with_reducible refine qqX ?_))); (first | (simp only [go_sem, hlt, hat, cells_enc, pcells_enc, Ty.tc]; (first | ((with_reducible apply ACall.pure0 [] (hc)); (focus (exact vwA)))))); (simp only [go_sem, hlt, hat, cells_enc, pcells_enc, Ty.tc]); ((with_reducible first | refine finA hC ?_ | refine finD hC ?_); clear hC C)) | ((with_reducible first | refine qqT fun C hC => ?_ | refine qqU fun C hC => ?_ | intro C hC); simp only [go_sem, hlt, hat, cells_enc, pcells_enc, Ty.tc]; ((with_reducible first | refine finA hC ?_ | refine finD hC ?_); clear hC C)) | (with_reducible first | refine qqA fun K hK => ?_ | refine qqB fun K hK => ?_ | refine qqC fun K hK => ?_ | (refine qqD ?_; refine hK _ _ ?_; try clear hK K) | (refine qqE ?_; refine hK _ _ _ ?_ ?_; (focus kernel_rfl); try clear hK K) | (refine qqF ?_; refine hK _ _ ?_; try clear hK K) | refine qqG ?_ | refine qqH ?_ | refine qqI ?_ | refine qqJ ?_ | refine qqK ?_ | (refine qqL ?_; try clear hK K) | (refine qqM ?_; try clear hK K) | refine qqN ?_ | refine qqO ?_ | (refine qqP ?_ ?_; focus decide)) | ((with_reducible first | apply qqQ | apply qqR | apply qqS); focus (simp only [go_sem, hlt, hat, cells_enc, pcells_enc, Ty.tc]; exact rfl)) | (with_reducible first | refine gk_tt ?_ | refine gk_ff ?_ | refine ck_t ?_ | refine ck_f ?_) | ((with_reducible first | refine gk_tf ?_ | refine gk_ft ?_ | refine gk_u ?_ | refine gk_u' ?_); first | (intro _ e; (first | rw [qqY] at e | rw [qqZ] at e); subst e) | (intro _ _ e e'; (first | rw [qqY] at e | rw [qqZ] at e); subst e; subst e'))))
        refine retP_ret (List.range 40) rfl (.cons _ _ _ _ ?_ (.cons _ _ _ _ (.pv _) .nil))
        rw [enc3]
        exact .agg _ _ (.cons _ _ _ _ (.pv _) (.cons _ _ _ _ (.pv _) (.cons _ _ _ _ (.pv _) .nil)))
      | true =>
        have hq2 := nfrL_one (g := nfP E n) (pre := []) (qs := []) rfl ho
        rw [ho, enc3 (nfrT (nfP E n) t).1] at hc
        (repeat' (first | ((first | (with_reducible refine qqV fun C hC => ?_) | (with_reducible refine qqW fun C hC => ?_) | ((with_reducible intro C hC); (with_reducible refine qqX ?_))); (first | (simp only [go_sem, hlt, hat, cells_enc, pcells_enc, Ty.tc]; (first | ((with_reducible apply ACall.pure0 [] (hc)); (focus (exact vwA)))))); (simp only [go_sem, hlt, hat, cells_enc, pcells_enc, Ty.tc]); ((with_reducible first | refine finA hC ?_ | refine finD hC ?_); clear hC C)) | ((with_reducible first | refine qqT fun C hC => ?_ | refine qqU fun C hC => ?_ | intro C hC); simp only [go_sem, hlt, hat, cells_enc, pcells_enc, Ty.tc]; ((with_reducible first | refine finA hC ?_ | refine finD hC ?_); clear hC C)) | (with_reducible first | refine qqA fun K hK => ?_ | refine qqB fun K hK => ?_ | refine qqC fun K hK => ?_ | (refine qqD ?_; refine hK _ _ ?_; try clear hK K) | (refine qqE ?_; refine hK _ _ _ ?_ ?_; (focus kernel_rfl); try clear hK K) | (refine qqF ?_; refine hK _ _ ?_; try clear hK K) | refine qqG ?_ | refine qqH ?_ | refine qqI ?_ | refine qqJ ?_ | refine qqK ?_ | (refine qqL ?_; try clear hK K) | (refine qqM ?_; try clear hK K) | refine qqN ?_ | refine qqO ?_ | (refine qqP ?_ ?_; focus decide)) | ((with_reducible first | apply qqQ | apply qqR | apply qqS); focus (simp only [go_sem, hlt, hat, cells_enc, pcells_enc, Ty.tc]; exact rfl)) | (with_reducible first | refine gk_tt ?_ | refine gk_ff ?_ | refine ck_t ?_ | refine ck_f ?_) | ((with_reducible first | refine gk_tf ?_ | refine gk_ft ?_ | refine gk_u ?_ | refine gk_u' ?_); first | (intro _ e; (first | rw [qqY] at e | rw [qqZ] at e); subst e) | (intro _ _ e e'; (first | rw [qqY] at e | rw [qqZ] at e); subst e; subst e'))))
        refine qqF ?_
        refine hK1 _ _ _ _ _ (LeB [0, 1, 2, 6] (by refine ⟨?_, ?_, ?_⟩ <;> simp only [leFr, leFb, leHp, V.ren, V.renL, V.bd, V.bdL, allL, lt, Go.Ab.get, hget, List.map_cons, List.map_nil, List.length_cons, List.length_nil, List.length_append, List.getElem?_cons_zero, List.getElem?_cons_succ, List.getElem?_nil, Option.join_some, Option.join_none, List.getD_cons_zero, List.getD_cons_succ, List.getD_nil, Nat.reduceAdd, Nat.reduceLT, Nat.reduceEqDiff, Nat.zero_add, reduceIte, if_true, if_false, and_true, true_and, renL_vcells, allL_vcells, renL_pv, leBlk_some, eq_self, true_or, or_true, reduceCtorEq, false_or, wrap01, List.map_cons, List.map_nil, renL_tc, renL_tc1, allL_tc, allL_app, bdL_tc, allL, Ty.tc])) (rows rest [t] [(nfrT (nfP E n) t).1] rfl hq2)
  refine awp_loop_k _ (LeB [0, 1, 2] (by refine ⟨?_, ?_, ?_⟩ <;> simp only [leFr, leFb, leHp, V.ren, V.renL, V.bd, V.bdL, allL, lt, Go.Ab.get, hget, List.map_cons, List.map_nil, List.length_cons, List.length_nil, List.length_append, List.getElem?_cons_zero, List.getElem?_cons_succ, List.getElem?_nil, Option.join_some, Option.join_none, List.getD_cons_zero, List.getD_cons_succ, List.getD_nil, Nat.reduceAdd, Nat.reduceLT, Nat.reduceEqDiff, Nat.zero_add, reduceIte, if_true, if_false, and_true, true_and, renL_vcells, allL_vcells, renL_pv, leBlk_some, eq_self, true_or, or_true, reduceCtorEq, false_or, allL])) first
theorem nf_tree (E : Env) (hlen : E.ds.length = E.sy.length) (hsl : E.sy.length ≤ 1099511627776) (hds : ∀ d ∈ E.ds, nds d.t ≤ 1099511627776) (n m : Nat) (hnm : n + m = 8)
    (hprev : ∀ k, n = k + 1 → ∀ t : Ty, PCall Try.prog 38 [.agg [.list 6 (encSy E.sy), E.r1, E.r2], .list 7 (encDc E.ds), .list 4 (encTb E.az), t.enc, ii (m + 1 : Nat)] (.tup [(nfrT (nfP E k) t).1.enc, bb (nfrT (nfP E k) t).2])) :
    ∀ t : Ty, PCall Try.prog 38 [.agg [.list 6 (encSy E.sy), E.r1, E.r2], .list 7 (encDc E.ds), .list 4 (encTb E.az), t.enc, ii m] (.tup [(nfrT (nfP E n) t).1.enc, bb (nfrT (nfP E n) t).2])
  | .mk k id ss => nf_main E hlen hsl hds n m hnm hprev k id ss fun t ht => nf_tree E hlen hsl hds n m hnm hprev t
termination_by t => SizeOf.sizeOf t
decreasing_by
  have := List.sizeOf_lt_of_mem ht
  simp only [Ty.mk.sizeOf_spec]; omega
theorem nf_ok (E : Env) (hlen : E.ds.length = E.sy.length) (hsl : E.sy.length ≤ 1099511627776) (hds : ∀ d ∈ E.ds, nds d.t ≤ 1099511627776) : ∀ (n m : Nat), n + m = 8 → ∀ t : Ty,
    PCall Try.prog 38 [.agg [.list 6 (encSy E.sy), E.r1, E.r2], .list 7 (encDc E.ds), .list 4 (encTb E.az), t.enc, ii m] (.tup [(nfrT (nfP E n) t).1.enc, bb (nfrT (nfP E n) t).2]) := by
  intro n
  induction n with
  | zero => intro m hm; exact nf_tree E hlen hsl hds 0 m hm fun k hk => by omega
  | succ n ih => intro m hm; exact nf_tree E hlen hsl hds (n + 1) m hm fun k hk => by
                  obtain rfl : k = n := by omega
                  exact ih (m + 1) (by omega)
end Go.Proofs.Ytbdoblgofddhdaa
