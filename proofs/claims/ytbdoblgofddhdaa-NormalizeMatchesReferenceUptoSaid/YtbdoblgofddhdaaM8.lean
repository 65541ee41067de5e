/- M8: joined from Y8. -/
import Derived.Test.YtbdoblgofddhdaaFnU
import Derived.Test.YtbdoblgofddhdaaM7
import Derived.Test.YtbdoblgofddhdaaM2
import Derived.Test.YtbdoblgofddhdaaM3
import Derived.Test.YtbdoblgofddhdaaB4
/- Associated types: projections counted; the member searched by the reference. -/
set_option maxRecDepth 10000
set_option linter.unusedSimpArgs false
set_option linter.unusedVariables false
namespace Go.Proofs.Ytbdoblgofddhdaa
open Go Go.Ab
theorem kdZ (k id : Int) (a : List Ty) : (Ty.mk k id a).kd = k := rfl
theorem idZ (k id : Int) (a : List Ty) : (Ty.mk k id a).id = id := rfl
theorem argsZ (k id : Int) (a : List Ty) : (Ty.mk k id a).args = a := rfl
mutual
theorem npr_le : ∀ t : Ty, npr t ≤ nds t
  | .mk k id ss => by have := nprL_le ss; simp only [npr, nds]; split <;> omega
theorem nprL_le : ∀ ts : List Ty, nprL ts ≤ ndsL ts
  | [] => by simp [nprL]
  | t :: ts => by have h1 := npr_le t; have h2 := nprL_le ts; simp only [nprL, ndsL]; omega
end
theorem nprL_end : ∀ (pre : List Ty) (q : Ty), nprL (pre ++ [q]) = nprL pre + npr q
  | [], q => by simp [nprL]
  | p :: pre, q => by simp only [List.cons_append, nprL, nprL_end pre q]; omega
set_option maxHeartbeats 4000000 in
theorem npr_loop (k id : Int) (ss : List Ty) (hb : nds (.mk k id ss) ≤ 1000) (hrec : ∀ t ∈ ss, PCall Try.prog 37 [t.enc] (ii (npr t))) : PCall Try.prog 37 [(Ty.mk k id ss).enc] (ii (npr (.mk k id ss))) := by
  refine PCall.intro' (ps := [ii (npr (.mk k id ss))]) fn37 (by simp) fun hok => ?_
  have hss : ss.length ≤ 1099511627776 := by
    simp only [PV.okL, Ty.enc, PV.ok, encL_len, big] at hok; exact hok.1.2.2.1.1
  clear hok
  have hle : ndsL ss ≤ 1000 := by simp only [nds] at hb; omega
  unfold ac37
  simp only [argFr]
  have go : ∀ (c : Nat), c ≤ 1 → npr (.mk k id ss) = c + nprL ss → ∀ (K : Fr → Hp → Prop), (∀ fr H, awp Try.prog (AC.seq (AC.reg [⟨some 23, .mov (.tmp 3), none⟩, ⟨some 2, .mov (.tmp 23), none⟩]) AC.ret) (retP [RV.tmp 2] [ii (npr (.mk k id ss))]) fr H → K fr H) →
      ∀ (rest pre : List Ty), pre ++ rest = ss → loopN (awp Try.prog ac37_l0) (catch_ 0 (thn K (retP [RV.tmp 2] [ii (npr (.mk k id ss))]))) (rest.length + 1)
      [(14, .pv (ii pre.length)), (13, .pv (ii ss.length)), (12, .pv (.list 3 (encL ss))), (3, .pv (ii ((c + nprL pre : Nat) : Int)))] [] := by
    intro c hc he K hK rest
    induction rest with
    | nil =>
      intro pre hpre
      have hpre : pre = ss := by simpa using hpre
      have hlt : decide ((pre.length : Int) < (ss.length : Int)) = false := by rw [hpre]; exact lt_end _
      rw [hpre]
      rw [hpre] at hlt
      refine loopN_k fun K1 hK1 => ?_
      unfold ac37_l0
      (repeat' (first | ((with_reducible first | refine qqT fun C hC => ?_ | refine qqU fun C hC => ?_ | intro C hC); simp only [go_sem, hlt]; ((with_reducible first | refine finA hC ?_ | refine finD hC ?_); clear hC C)) | (with_reducible first | refine qqA fun K hK => ?_ | refine qqB fun K hK => ?_ | refine qqC fun K hK => ?_ | (refine qqD ?_; refine hK _ _ ?_; try clear hK K) | (refine qqE ?_; refine hK _ _ _ ?_ ?_; (focus kernel_rfl); try clear hK K) | (refine qqF ?_; refine hK _ _ ?_; try clear hK K) | refine qqG ?_ | refine qqH ?_ | refine qqI ?_ | refine qqJ ?_ | refine qqK ?_ | (refine qqL ?_; try clear hK K) | (refine qqM ?_; try clear hK K) | refine qqN ?_ | refine qqO ?_ | (refine qqP ?_ ?_; focus decide)) | ((with_reducible first | apply qqQ | apply qqR | apply qqS); focus (simp only [go_sem, hlt]; exact rfl)) | (with_reducible first | refine gk_tt ?_ | refine gk_ff ?_ | refine ck_t ?_ | refine ck_f ?_) | ((with_reducible first | refine gk_tf ?_ | refine gk_ft ?_ | refine gk_u ?_ | refine gk_u' ?_); first | (intro _ e; (first | rw [qqY] at e | rw [qqZ] at e); subst e) | (intro _ _ e e'; (first | rw [qqY] at e | rw [qqZ] at e); subst e; subst e'))))
      rw [he]
      (refine retP_ret (List.range 40) rfl ?_; exact vwA)
    | cons x rest ih =>
      intro pre hpre
      have hlt : decide ((pre.length : Int) < (ss.length : Int)) = true := by rw [← hpre]; exact lt_app _ _ _
      have hat : (encL ss)[pre.length]? = some x.enc := by rw [← hpre]; exact encL_at _ _ _
      have hw := wrapS (n := pre.length) (by have := congrArg List.length hpre; simp at this; omega)
      have hx := hrec x (by rw [← hpre]; simp)
      rw [enc3] at hx
      have hn := ndsL_mid pre rest x
      rw [hpre] at hn
      have h1 := npr_le x
      have h2 := nprL_le pre
      have hw2 : IntKind.i64.wrap (((c + nprL pre : Nat) : Int) + (npr x : Int)) = ((c + nprL (pre ++ [x]) : Nat) : Int) := by
        rw [nprL_end, IntWalk.i64_in _ (by omega)]; omega
      refine loopN_k fun K1 hK1 => ?_
      unfold ac37_l0
      (repeat' (first | ((first | (with_reducible refine qqV fun C hC => ?_) | (with_reducible refine qqW fun C hC => ?_) | ((with_reducible intro C hC); (with_reducible refine qqX ?_))); (first | (simp only [go_sem, hlt, hat, cells_enc, pcells_enc, Ty.tc]; (first | ((with_reducible apply ACall.pure0 [] (hx)); (focus (exact vwA)))))); (simp only [go_sem, hlt, hat, cells_enc, pcells_enc, Ty.tc]); ((with_reducible first | refine finA hC ?_ | refine finD hC ?_); clear hC C)) | ((with_reducible first | refine qqT fun C hC => ?_ | refine qqU fun C hC => ?_ | intro C hC); simp only [go_sem, hlt, hat, cells_enc, pcells_enc, Ty.tc]; ((with_reducible first | refine finA hC ?_ | refine finD hC ?_); clear hC C)) | (with_reducible first | refine qqA fun K hK => ?_ | refine qqB fun K hK => ?_ | refine qqC fun K hK => ?_ | (refine qqD ?_; refine hK _ _ ?_; try clear hK K) | (refine qqE ?_; refine hK _ _ _ ?_ ?_; (focus kernel_rfl); try clear hK K) | (refine qqF ?_; refine hK _ _ ?_; try clear hK K) | refine qqG ?_ | refine qqH ?_ | refine qqI ?_ | refine qqJ ?_ | refine qqK ?_ | (refine qqL ?_; try clear hK K) | (refine qqM ?_; try clear hK K) | refine qqN ?_ | refine qqO ?_ | (refine qqP ?_ ?_; focus decide)) | ((with_reducible first | apply qqQ | apply qqR | apply qqS); focus (simp only [go_sem, hlt, hat, cells_enc, pcells_enc, Ty.tc]; exact rfl)) | (with_reducible first | refine gk_tt ?_ | refine gk_ff ?_ | refine ck_t ?_ | refine ck_f ?_) | ((with_reducible first | refine gk_tf ?_ | refine gk_ft ?_ | refine gk_u ?_ | refine gk_u' ?_); first | (intro _ e; (first | rw [qqY] at e | rw [qqZ] at e); subst e) | (intro _ _ e e'; (first | rw [qqY] at e | rw [qqZ] at e); subst e; subst e'))))
      refine qqF ?_
      refine hK1 _ _ _ _ _ (LeB [] (by refine ⟨?_, ?_, ?_⟩ <;> simp only [leFr, leFb, leHp, V.ren, V.renL, V.bd, V.bdL, allL, lt, Go.Ab.get, hget, List.map_cons, List.map_nil, List.length_cons, List.length_nil, List.length_append, List.getElem?_cons_zero, List.getElem?_cons_succ, List.getElem?_nil, Option.join_some, Option.join_none, List.getD_cons_zero, List.getD_cons_succ, List.getD_nil, Nat.reduceAdd, Nat.reduceLT, Nat.reduceEqDiff, Nat.zero_add, reduceIte, if_true, if_false, and_true, true_and, renL_vcells, allL_vcells, renL_pv, leBlk_some, eq_self, true_or, or_true, reduceCtorEq, false_or, hw, hw2, List.length_append])) (ih (pre ++ [x]) (by simp [hpre]))
  cases hk : (k == 10) with
  | true =>
    have w1 : IntKind.i64.wrap (0 + 1) = 1 := by decide
    (repeat' (first | ((with_reducible first | refine qqT fun C hC => ?_ | refine qqU fun C hC => ?_ | intro C hC); simp only [go_sem, cells_enc, Ty.tc, kdZ, idZ, argsZ, hk, encL_len, w1]; ((with_reducible first | refine finA hC ?_ | refine finD hC ?_); clear hC C)) | (with_reducible first | refine qqA fun K hK => ?_ | refine qqB fun K hK => ?_ | refine qqC fun K hK => ?_ | (refine qqD ?_; refine hK _ _ ?_; try clear hK K) | (refine qqE ?_; refine hK _ _ _ ?_ ?_; (focus kernel_rfl); try clear hK K) | (refine qqF ?_; refine hK _ _ ?_; try clear hK K) | refine qqG ?_ | refine qqH ?_ | refine qqI ?_ | refine qqJ ?_ | refine qqK ?_ | (refine qqL ?_; try clear hK K) | (refine qqM ?_; try clear hK K) | refine qqN ?_ | refine qqO ?_ | (refine qqP ?_ ?_; focus decide)) | ((with_reducible first | apply qqQ | apply qqR | apply qqS); focus (simp only [go_sem, cells_enc, Ty.tc, kdZ, idZ, argsZ, hk, encL_len, w1]; exact rfl)) | (with_reducible first | refine gk_tt ?_ | refine gk_ff ?_ | refine ck_t ?_ | refine ck_f ?_) | ((with_reducible first | refine gk_tf ?_ | refine gk_ft ?_ | refine gk_u ?_ | refine gk_u' ?_); first | (intro _ e; (first | rw [qqY] at e | rw [qqZ] at e); subst e) | (intro _ _ e e'; (first | rw [qqY] at e | rw [qqZ] at e); subst e; subst e'))))
    refine awp_loop_k _ (LeB [] (by refine ⟨?_, ?_, ?_⟩ <;> simp only [leFr, leFb, leHp, V.ren, V.renL, V.bd, V.bdL, allL, lt, Go.Ab.get, hget, List.map_cons, List.map_nil, List.length_cons, List.length_nil, List.length_append, List.getElem?_cons_zero, List.getElem?_cons_succ, List.getElem?_nil, Option.join_some, Option.join_none, List.getD_cons_zero, List.getD_cons_succ, List.getD_nil, Nat.reduceAdd, Nat.reduceLT, Nat.reduceEqDiff, Nat.zero_add, reduceIte, if_true, if_false, and_true, true_and, renL_vcells, allL_vcells, renL_pv, leBlk_some, eq_self, true_or, or_true, reduceCtorEq, false_or, c0, nprL, show (((1 + 0 : Nat) : Int)) = 1 from rfl])) (go 1 (by omega) (by simp [npr, hk]) K hK ss [] rfl)
  | false =>
    (repeat' (first | ((with_reducible first | refine qqT fun C hC => ?_ | refine qqU fun C hC => ?_ | intro C hC); simp only [go_sem, cells_enc, Ty.tc, kdZ, idZ, argsZ, hk, encL_len]; ((with_reducible first | refine finA hC ?_ | refine finD hC ?_); clear hC C)) | (with_reducible first | refine qqA fun K hK => ?_ | refine qqB fun K hK => ?_ | refine qqC fun K hK => ?_ | (refine qqD ?_; refine hK _ _ ?_; try clear hK K) | (refine qqE ?_; refine hK _ _ _ ?_ ?_; (focus kernel_rfl); try clear hK K) | (refine qqF ?_; refine hK _ _ ?_; try clear hK K) | refine qqG ?_ | refine qqH ?_ | refine qqI ?_ | refine qqJ ?_ | refine qqK ?_ | (refine qqL ?_; try clear hK K) | (refine qqM ?_; try clear hK K) | refine qqN ?_ | refine qqO ?_ | (refine qqP ?_ ?_; focus decide)) | ((with_reducible first | apply qqQ | apply qqR | apply qqS); focus (simp only [go_sem, cells_enc, Ty.tc, kdZ, idZ, argsZ, hk, encL_len]; exact rfl)) | (with_reducible first | refine gk_tt ?_ | refine gk_ff ?_ | refine ck_t ?_ | refine ck_f ?_) | ((with_reducible first | refine gk_tf ?_ | refine gk_ft ?_ | refine gk_u ?_ | refine gk_u' ?_); first | (intro _ e; (first | rw [qqY] at e | rw [qqZ] at e); subst e) | (intro _ _ e e'; (first | rw [qqY] at e | rw [qqZ] at e); subst e; subst e'))))
    refine awp_loop_k _ (LeB [] (by refine ⟨?_, ?_, ?_⟩ <;> simp only [leFr, leFb, leHp, V.ren, V.renL, V.bd, V.bdL, allL, lt, Go.Ab.get, hget, List.map_cons, List.map_nil, List.length_cons, List.length_nil, List.length_append, List.getElem?_cons_zero, List.getElem?_cons_succ, List.getElem?_nil, Option.join_some, Option.join_none, List.getD_cons_zero, List.getD_cons_succ, List.getD_nil, Nat.reduceAdd, Nat.reduceLT, Nat.reduceEqDiff, Nat.zero_add, reduceIte, if_true, if_false, and_true, true_and, renL_vcells, allL_vcells, renL_pv, leBlk_some, eq_self, true_or, or_true, reduceCtorEq, false_or, c0, nprL, show (((0 + 0 : Nat) : Int)) = 0 from rfl])) (go 0 (by omega) (by simp [npr, hk]) K hK ss [] rfl)
theorem npr_ok : ∀ t : Ty, nds t ≤ 1000 → PCall Try.prog 37 [t.enc] (ii (npr t))
  | .mk k id ss, hb => npr_loop k id ss hb fun t ht => npr_ok t (by have := nds_arg ht; simp only [nds] at hb; omega)
termination_by t => SizeOf.sizeOf t
decreasing_by
  have := List.sizeOf_lt_of_mem ht
  simp only [Ty.mk.sizeOf_spec]; omega
def Rv (E : Env) : PV := .agg [.list 6 (encSy E.sy), E.r1, E.r2]
set_option maxHeartbeats 8000000 in
theorem nf_l1 {E : Env} (hlen : E.ds.length = E.sy.length) (hsl : E.sy.length ≤ 1099511627776) {n m : Nat} (hnm : n + m = 8) {p : Prf} {id : Int} {a : Ty} {j i2 : Nat} {u : Sy} {d2 : Dc} (hj : id = (j : Int)) (hu : E.sy[j]? = some u) (hi2 : p.im = (i2 : Int)) (hd2 : E.ds[i2]? = some d2) (hps : d2.ps.length ≤ p.az.length)
    (hprev : ∀ k, n = k + 1 → ∀ t : Ty, PCall Try.prog 38 [.agg [.list 6 (encSy E.sy), E.r1, E.r2], .list 7 (encDc E.ds), .list 4 (encTb E.az), t.enc, ii (m + 1 : Nat)] (.tup [(nfrT (nfP E k) t).1.enc, bb (nfrT (nfP E k) t).2]))
    {R : Ty × Bool} (hR0 : memI E p.im id < 0 → R = (zT, true)) (hR1 : ¬ memI E p.im id < 0 → n = 0 → R = (zT, true)) (hR2 : ∀ k, n = k + 1 → ¬ memI E p.im id < 0 → R = nfrT (nfP E k) (appT (dcP E.ds p.im) p.az (dcT E.ds (memI E p.im id))))
    {K : Fr → Hp → Prop} (hK : ∀ fr H, awp Try.prog (AC.seq (AC.reg [⟨some 174, .build [(.int .i64 0), (.int .i64 0), (.slice none 0 0)] [(0, 1), (1, 1), (2, 1)] [], none⟩, ⟨none, .store 3 (.tmp 10) (.tmp 174), none⟩, ⟨some 11, .mov (.const (.bool true)), none⟩]) AC.ret) (retP [RV.cell 10 3 true, RV.tmp 11] [R.1.enc, bb R.2]) fr H → K fr H) :
    ∀ (rest pre : List Sy), pre ++ rest = E.sy → memI E p.im id = idxF (isM p.im u.nm) rest pre.length → loopN (awp Try.prog ac38_l1) (catch_ 2 (thn K (retP [RV.cell 10 3 true, RV.tmp 11] [R.1.enc, bb R.2]))) (rest.length + 1)
      [(121, .pv (ii pre.length)), (120, .pv (ii E.sy.length)), (119, .pv (.list 6 (encSy E.sy))), (18, .ptr 4 0 0), (10, .ptr 2 0 0), (8, .ptr 1 0 0), (5, .ptr 0 0 0), (4, .pv (ii m)), (2, .pv (.list 4 (encTb E.az))), (1, .pv (.list 7 (encDc E.ds)))]
      [some ⟨false, 50, 3, [[.pv (.list 6 (encSy E.sy)), .pv E.r1, .pv E.r2]], none⟩, some ⟨false, 26, 3, [[.pv (ii 10), .pv (ii id), .row 3 1 false]], none⟩, some ⟨false, 26, 3, [[.pv (ii 0), .pv (ii 0), .pv (.lit (.slice none 0 0))]], none⟩, some ⟨false, 26, 3, [[.pv (ii a.kd), .pv (ii a.id), .pv (.list 3 (encL a.args))]], none⟩,
       some ⟨false, 30, 8, [[.pv (ii p.t.kd), .pv (ii p.t.id), .pv (.list 3 (encL p.t.args)), .pv (ii p.tr), .pv (ii p.im), .pv (ii p.bd), .pv (.list 3 (encL p.az)), .pv (.list 8 (encPf p.ps))]], none⟩] := by
  subst hj
  have hatu := encSy_get hu
  intro rest
  induction rest with
  | nil =>
    intro pre hpre he
    have hpre : pre = E.sy := by simpa using hpre
    have hlt : decide ((pre.length : Int) < (E.sy.length : Int)) = false := by rw [hpre]; exact lt_end _
    obtain rfl := hR0 (by rw [he]; simp [idxF])
    refine loopN_k fun K1 hK1 => ?_
    unfold ac38_l1
    (repeat' (first | ((with_reducible first | refine qqT fun C hC => ?_ | refine qqU fun C hC => ?_ | intro C hC); simp only [go_sem, hlt]; ((with_reducible first | refine finA hC ?_ | refine finD hC ?_); clear hC C)) | (with_reducible first | refine qqA fun K hK => ?_ | refine qqB fun K hK => ?_ | refine qqC fun K hK => ?_ | (refine qqD ?_; refine hK _ _ ?_; try clear hK K) | (refine qqE ?_; refine hK _ _ _ ?_ ?_; (focus kernel_rfl); try clear hK K) | (refine qqF ?_; refine hK _ _ ?_; try clear hK K) | refine qqG ?_ | refine qqH ?_ | refine qqI ?_ | refine qqJ ?_ | refine qqK ?_ | (refine qqL ?_; try clear hK K) | (refine qqM ?_; try clear hK K) | refine qqN ?_ | refine qqO ?_ | (refine qqP ?_ ?_; focus decide)) | ((with_reducible first | apply qqQ | apply qqR | apply qqS); focus (simp only [go_sem, hlt]; exact rfl)) | (with_reducible first | refine gk_tt ?_ | refine gk_ff ?_ | refine ck_t ?_ | refine ck_f ?_) | ((with_reducible first | refine gk_tf ?_ | refine gk_ft ?_ | refine gk_u ?_ | refine gk_u' ?_); first | (intro _ e; (first | rw [qqY] at e | rw [qqZ] at e); subst e) | (intro _ _ e e'; (first | rw [qqY] at e | rw [qqZ] at e); subst e; subst e'))))
    refine retP_ret (List.range 40) rfl (.cons _ _ _ _ ?_ (.cons _ _ _ _ (.pv _) .nil))
    exact .agg _ _ (.cons _ _ _ _ (.pv _) (.cons _ _ _ _ (.pv _) (.cons _ _ _ _ Vw_nil .nil)))
  | cons s rest ih =>
    intro pre hpre he
    have hlt : decide ((pre.length : Int) < (E.sy.length : Int)) = true := by rw [← hpre]; exact lt_app _ _ _
    have hat : (encSy E.sy)[pre.length]? = some s.enc := by rw [← hpre]; exact encSy_at _ _ _
    have hpl : pre.length < E.sy.length := by rw [← hpre]; simp
    have hw := wrapS (n := pre.length) (by omega)
    refine loopN_k fun K1 hK1 => ?_
    unfold ac38_l1
    have next : isM p.im u.nm s = false → memI E p.im (j : Int) = idxF (isM p.im u.nm) rest (pre ++ [s]).length := fun h => by
      rw [he]; simp [idxF, h]
    cases h1 : (s.kd == 13) with
    | false =>
      have hm : isM p.im u.nm s = false := by unfold isM; rw [h1]; rfl
      (repeat' (first | ((with_reducible first | refine qqT fun C hC => ?_ | refine qqU fun C hC => ?_ | intro C hC); simp only [go_sem, hlt, hat, pcells_sy, h1]; ((with_reducible first | refine finA hC ?_ | refine finD hC ?_); clear hC C)) | (with_reducible first | refine qqA fun K hK => ?_ | refine qqB fun K hK => ?_ | refine qqC fun K hK => ?_ | (refine qqD ?_; refine hK _ _ ?_; try clear hK K) | (refine qqE ?_; refine hK _ _ _ ?_ ?_; (focus kernel_rfl); try clear hK K) | (refine qqF ?_; refine hK _ _ ?_; try clear hK K) | refine qqG ?_ | refine qqH ?_ | refine qqI ?_ | refine qqJ ?_ | refine qqK ?_ | (refine qqL ?_; try clear hK K) | (refine qqM ?_; try clear hK K) | refine qqN ?_ | refine qqO ?_ | (refine qqP ?_ ?_; focus decide)) | ((with_reducible first | apply qqQ | apply qqR | apply qqS); focus (simp only [go_sem, hlt, hat, pcells_sy, h1]; exact rfl)) | (with_reducible first | refine gk_tt ?_ | refine gk_ff ?_ | refine ck_t ?_ | refine ck_f ?_) | ((with_reducible first | refine gk_tf ?_ | refine gk_ft ?_ | refine gk_u ?_ | refine gk_u' ?_); first | (intro _ e; (first | rw [qqY] at e | rw [qqZ] at e); subst e) | (intro _ _ e e'; (first | rw [qqY] at e | rw [qqZ] at e); subst e; subst e'))))
      refine qqF ?_
      refine hK1 _ _ _ _ _ (LeB [0, 1, 2, 3, 4] (by refine ⟨?_, ?_, ?_⟩ <;> simp only [leFr, leFb, leHp, V.ren, V.renL, V.bd, V.bdL, allL, lt, Go.Ab.get, hget, List.map_cons, List.map_nil, List.length_cons, List.length_nil, List.length_append, List.getElem?_cons_zero, List.getElem?_cons_succ, List.getElem?_nil, Option.join_some, Option.join_none, List.getD_cons_zero, List.getD_cons_succ, List.getD_nil, Nat.reduceAdd, Nat.reduceLT, Nat.reduceEqDiff, Nat.zero_add, reduceIte, if_true, if_false, and_true, true_and, renL_vcells, allL_vcells, renL_pv, leBlk_some, eq_self, true_or, or_true, reduceCtorEq, false_or, hw, List.length_append, allL])) (ih (pre ++ [s]) (by simp [hpre]) (next hm))
    | true =>
      cases h2 : (s.pr == p.im) with
      | false =>
        have hm : isM p.im u.nm s = false := by unfold isM; rw [h1, h2]; rfl
        (repeat' (first | ((with_reducible first | refine qqT fun C hC => ?_ | refine qqU fun C hC => ?_ | intro C hC); simp only [go_sem, hlt, hat, pcells_sy, h1, h2]; ((with_reducible first | refine finA hC ?_ | refine finD hC ?_); clear hC C)) | (with_reducible first | refine qqA fun K hK => ?_ | refine qqB fun K hK => ?_ | refine qqC fun K hK => ?_ | (refine qqD ?_; refine hK _ _ ?_; try clear hK K) | (refine qqE ?_; refine hK _ _ _ ?_ ?_; (focus kernel_rfl); try clear hK K) | (refine qqF ?_; refine hK _ _ ?_; try clear hK K) | refine qqG ?_ | refine qqH ?_ | refine qqI ?_ | refine qqJ ?_ | refine qqK ?_ | (refine qqL ?_; try clear hK K) | (refine qqM ?_; try clear hK K) | refine qqN ?_ | refine qqO ?_ | (refine qqP ?_ ?_; focus decide)) | ((with_reducible first | apply qqQ | apply qqR | apply qqS); focus (simp only [go_sem, hlt, hat, pcells_sy, h1, h2]; exact rfl)) | (with_reducible first | refine gk_tt ?_ | refine gk_ff ?_ | refine ck_t ?_ | refine ck_f ?_) | ((with_reducible first | refine gk_tf ?_ | refine gk_ft ?_ | refine gk_u ?_ | refine gk_u' ?_); first | (intro _ e; (first | rw [qqY] at e | rw [qqZ] at e); subst e) | (intro _ _ e e'; (first | rw [qqY] at e | rw [qqZ] at e); subst e; subst e'))))
        refine qqF ?_
        refine hK1 _ _ _ _ _ (LeB [0, 1, 2, 3, 4] (by refine ⟨?_, ?_, ?_⟩ <;> simp only [leFr, leFb, leHp, V.ren, V.renL, V.bd, V.bdL, allL, lt, Go.Ab.get, hget, List.map_cons, List.map_nil, List.length_cons, List.length_nil, List.length_append, List.getElem?_cons_zero, List.getElem?_cons_succ, List.getElem?_nil, Option.join_some, Option.join_none, List.getD_cons_zero, List.getD_cons_succ, List.getD_nil, Nat.reduceAdd, Nat.reduceLT, Nat.reduceEqDiff, Nat.zero_add, reduceIte, if_true, if_false, and_true, true_and, renL_vcells, allL_vcells, renL_pv, leBlk_some, eq_self, true_or, or_true, reduceCtorEq, false_or, hw, List.length_append, allL])) (ih (pre ++ [s]) (by simp [hpre]) (next hm))
      | true =>
        cases h3 : (s.nm.toList == u.nm.toList) with
        | false =>
          have hm : isM p.im u.nm s = false := by unfold isM sbE; rw [h1, h2, h3]; rfl
          (repeat' (first | ((with_reducible first | refine qqT fun C hC => ?_ | refine qqU fun C hC => ?_ | intro C hC); simp only [go_sem, hlt, hat, pcells_sy, h1, h2, hatu, h3]; ((with_reducible first | refine finA hC ?_ | refine finD hC ?_); clear hC C)) | (with_reducible first | refine qqA fun K hK => ?_ | refine qqB fun K hK => ?_ | refine qqC fun K hK => ?_ | (refine qqD ?_; refine hK _ _ ?_; try clear hK K) | (refine qqE ?_; refine hK _ _ _ ?_ ?_; (focus kernel_rfl); try clear hK K) | (refine qqF ?_; refine hK _ _ ?_; try clear hK K) | refine qqG ?_ | refine qqH ?_ | refine qqI ?_ | refine qqJ ?_ | refine qqK ?_ | (refine qqL ?_; try clear hK K) | (refine qqM ?_; try clear hK K) | refine qqN ?_ | refine qqO ?_ | (refine qqP ?_ ?_; focus decide)) | ((with_reducible first | apply qqQ | apply qqR | apply qqS); focus (simp only [go_sem, hlt, hat, pcells_sy, h1, h2, hatu, h3]; exact rfl)) | (with_reducible first | refine gk_tt ?_ | refine gk_ff ?_ | refine ck_t ?_ | refine ck_f ?_) | ((with_reducible first | refine gk_tf ?_ | refine gk_ft ?_ | refine gk_u ?_ | refine gk_u' ?_); first | (intro _ e; (first | rw [qqY] at e | rw [qqZ] at e); subst e) | (intro _ _ e e'; (first | rw [qqY] at e | rw [qqZ] at e); subst e; subst e'))))
          refine qqF ?_
          refine hK1 _ _ _ _ _ (LeB [0, 1, 2, 3, 4] (by refine ⟨?_, ?_, ?_⟩ <;> simp only [leFr, leFb, leHp, V.ren, V.renL, V.bd, V.bdL, allL, lt, Go.Ab.get, hget, List.map_cons, List.map_nil, List.length_cons, List.length_nil, List.length_append, List.getElem?_cons_zero, List.getElem?_cons_succ, List.getElem?_nil, Option.join_some, Option.join_none, List.getD_cons_zero, List.getD_cons_succ, List.getD_nil, Nat.reduceAdd, Nat.reduceLT, Nat.reduceEqDiff, Nat.zero_add, reduceIte, if_true, if_false, and_true, true_and, renL_vcells, allL_vcells, renL_pv, leBlk_some, eq_self, true_or, or_true, reduceCtorEq, false_or, hw, List.length_append, allL])) (ih (pre ++ [s]) (by simp [hpre]) (next hm))
        | true =>
          have hm : isM p.im u.nm s = true := by unfold isM sbE; rw [h1, h2, h3]; rfl
          have hme : memI E p.im (j : Int) = (pre.length : Int) := by rw [he]; simp [idxF, hm]
          have hm0 : ¬ memI E p.im (j : Int) < 0 := by rw [hme]; omega
          cases n with
          | zero =>
            obtain rfl := hR1 hm0 rfl
            have h8 : ((m : Int) == 8) = true := by rw [beq_iff_eq]; omega
            (repeat' (first | ((with_reducible first | refine qqT fun C hC => ?_ | refine qqU fun C hC => ?_ | intro C hC); simp only [go_sem, hlt, hat, pcells_sy, h1, h2, hatu, h3, h8]; ((with_reducible first | refine finA hC ?_ | refine finD hC ?_); clear hC C)) | (with_reducible first | refine qqA fun K hK => ?_ | refine qqB fun K hK => ?_ | refine qqC fun K hK => ?_ | (refine qqD ?_; refine hK _ _ ?_; try clear hK K) | (refine qqE ?_; refine hK _ _ _ ?_ ?_; (focus kernel_rfl); try clear hK K) | (refine qqF ?_; refine hK _ _ ?_; try clear hK K) | refine qqG ?_ | refine qqH ?_ | refine qqI ?_ | refine qqJ ?_ | refine qqK ?_ | (refine qqL ?_; try clear hK K) | (refine qqM ?_; try clear hK K) | refine qqN ?_ | refine qqO ?_ | (refine qqP ?_ ?_; focus decide)) | ((with_reducible first | apply qqQ | apply qqR | apply qqS); focus (simp only [go_sem, hlt, hat, pcells_sy, h1, h2, hatu, h3, h8]; exact rfl)) | (with_reducible first | refine gk_tt ?_ | refine gk_ff ?_ | refine ck_t ?_ | refine ck_f ?_) | ((with_reducible first | refine gk_tf ?_ | refine gk_ft ?_ | refine gk_u ?_ | refine gk_u' ?_); first | (intro _ e; (first | rw [qqY] at e | rw [qqZ] at e); subst e) | (intro _ _ e e'; (first | rw [qqY] at e | rw [qqZ] at e); subst e; subst e'))))
            refine retP_ret (List.range 40) rfl (.cons _ _ _ _ ?_ (.cons _ _ _ _ (.pv _) .nil))
            exact .agg _ _ (.cons _ _ _ _ (.pv _) (.cons _ _ _ _ (.pv _) (.cons _ _ _ _ Vw_nil .nil)))
          | succ k =>
            have h8 : ((m : Int) == 8) = false := by rw [beq_eq_false_iff_ne]; omega
            have hw2 := wrapS (n := m) (by omega)
            have hd1 := List.getElem?_eq_getElem (show pre.length < E.ds.length by omega)
            generalize E.ds[pre.length] = d1 at hd1
            have e1 : dcT E.ds (memI E p.im (j : Int)) = d1.t := by unfold dcT; rw [hme, Int.toNat_natCast, hd1]
            have e2 : dcP E.ds p.im = d2.ps := by unfold dcP; rw [hi2, Int.toNat_natCast, hd2]
            have hRR := hR2 k rfl hm0
            rw [e1, e2] at hRR
            have hap := ra_ok d2.ps p.az d1.t
            rw [raT_eq hps, enc3 d1.t] at hap
            have hp2 := hprev k rfl (appT d2.ps p.az d1.t)
            rw [← hRR] at hp2
            have hp0 : 0 ≤ p.im := by rw [hi2]; omega
            have hat1 := encDc_get hd1
            have hat2 : (encDc E.ds)[p.im.toNat]? = some d2.enc := by rw [hi2, Int.toNat_natCast]; exact encDc_get hd2
            (repeat' (first | ((first | (with_reducible refine qqV fun C hC => ?_) | (with_reducible refine qqW fun C hC => ?_) | ((with_reducible intro C hC); (with_reducible refine qqX ?_))); (first | (simp only [go_sem, hlt, hat, pcells_sy, h1, h2, hatu, h3, h8, hat1, hat2, hp0, pcells_dc, hw2, cells_enc, Ty.tc, scal_enc]; (first | ((with_reducible apply ACall.pure0 [] (hap)); (focus (exact vwA))) | ((with_reducible apply ACall.pure0 [] (hp2)); (focus (exact vwA)))))); (simp only [go_sem, hlt, hat, pcells_sy, h1, h2, hatu, h3, h8, hat1, hat2, hp0, pcells_dc, hw2, cells_enc, Ty.tc, scal_enc]); ((with_reducible first | refine finA hC ?_ | refine finD hC ?_); clear hC C)) | ((with_reducible first | refine qqT fun C hC => ?_ | refine qqU fun C hC => ?_ | intro C hC); simp only [go_sem, hlt, hat, pcells_sy, h1, h2, hatu, h3, h8, hat1, hat2, hp0, pcells_dc, hw2, cells_enc, Ty.tc, scal_enc]; ((with_reducible first | refine finA hC ?_ | refine finD hC ?_); clear hC C)) | (with_reducible first | refine qqA fun K hK => ?_ | refine qqB fun K hK => ?_ | refine qqC fun K hK => ?_ | (refine qqD ?_; refine hK _ _ ?_; try clear hK K) | (refine qqE ?_; refine hK _ _ _ ?_ ?_; (focus kernel_rfl); try clear hK K) | (refine qqF ?_; refine hK _ _ ?_; try clear hK K) | refine qqG ?_ | refine qqH ?_ | refine qqI ?_ | refine qqJ ?_ | refine qqK ?_ | (refine qqL ?_; try clear hK K) | (refine qqM ?_; try clear hK K) | refine qqN ?_ | refine qqO ?_ | (refine qqP ?_ ?_; focus decide)) | ((with_reducible first | apply qqQ | apply qqR | apply qqS); focus (simp only [go_sem, hlt, hat, pcells_sy, h1, h2, hatu, h3, h8, hat1, hat2, hp0, pcells_dc, hw2, cells_enc, Ty.tc, scal_enc]; exact rfl)) | (with_reducible first | refine gk_tt ?_ | refine gk_ff ?_ | refine ck_t ?_ | refine ck_f ?_) | ((with_reducible first | refine gk_tf ?_ | refine gk_ft ?_ | refine gk_u ?_ | refine gk_u' ?_); first | (intro _ e; (first | rw [qqY] at e | rw [qqZ] at e); subst e) | (intro _ _ e e'; (first | rw [qqY] at e | rw [qqZ] at e); subst e; subst e'))))
            refine retP_ret (List.range 40) rfl (.cons _ _ _ _ ?_ (.cons _ _ _ _ (.pv _) .nil))
            rw [enc3]
            exact .agg _ _ (.cons _ _ _ _ (.pv _) (.cons _ _ _ _ (.pv _) (.cons _ _ _ _ (.pv _) .nil)))
end Go.Proofs.Ytbdoblgofddhdaa
