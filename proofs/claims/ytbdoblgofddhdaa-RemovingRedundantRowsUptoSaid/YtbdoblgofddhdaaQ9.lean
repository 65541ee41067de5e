/- Q9: joined from Q9. -/
import Derived.Test.YtbdoblgofddhdaaFnR
import Derived.Test.YtbdoblgofddhdaaQ8
/- Exhaustiveness: missing. -/
set_option maxRecDepth 10000
set_option linter.unusedSimpArgs false
set_option linter.unusedVariables false
namespace Go.Proofs.Ytbdoblgofddhdaa
open Go Go.Ab
def misV : Option (List Ty) → PV
  | none => .tup [.list 3 (encL []), bb false]
  | some r => .tup [.list 3 (encL r), bb true]
theorem encI_hd (c : Int) (cs : List Int) : (encI (c :: cs))[0]? = some (ii c) := rfl
theorem slI (c : Int) (cs : List Int) : ((encI (c :: cs)).take (cs.length + 1)).drop 1 = encI cs := by
  have : (encI (c :: cs)).length = cs.length + 1 := by rw [encI_len]; rfl
  rw [← this, List.take_length]; rfl
theorem concatI2 (xs ys : List Int) (h : xs.length + ys.length ≤ 1099511627776) : PCall Try.prog 164 [.list 1 [.list 1 (encI xs), .list 1 (encI ys)]] (.list 1 (encI (xs ++ ys))) := by
  have := concatI_ok [xs, ys] (by simpa using h)
  simpa [encLLI] using this
theorem conf_args {ds : List Dm} (hD : DsOk ds) {p : Ty} {c : Int} (h : conf ds p c = true) : p.args.length ≤ 4 := by
  obtain ⟨d, hd, hc⟩ := conf_cases h
  rcases hc with ⟨_, _, e⟩ | ⟨_, _, ⟨_, e⟩ | ⟨_, _, e⟩ | ⟨_, _, v, hv, e, _⟩⟩
  · simp [e]
  · simp [e]
  · simp [e]
  · rw [← e]; exact hD.arity d (dom_mem hd) v (vfind_mem hv).1
theorem spB_of {ds : List Dm} (hD : DsOk ds) {rows : List (List Ty)} {c : Int} {cs : List Int} (hr : ∀ row ∈ rows, confL ds row (c :: cs) = true) {n : Nat} (hn : n + cs.length ≤ 1000000000) : SpB n rows := by
  intro row h
  obtain ⟨p, r, rfl, h1, h2⟩ := row_split (hr row h)
  refine ⟨by simp, fun p' r' e => ?_⟩
  cases e
  have := conf_args hD h1
  have := confL_len h2
  omega
theorem mis_len {ds : List Dm} (hD : DsOk ds) (hF : FsOk ds) {n : Nat} {cols : List Int} {rows : List (List Ty)} {r : List Ty} (hc : ∀ c ∈ cols, cOk ds c) (hr : ∀ row ∈ rows, confL ds row cols = true) (h : mis ds n cols rows = some r) : r.length = cols.length :=
  confL_len (mis_sound hD hF n cols rows r hc hr h).1
/-- what one more step asks -/
theorem step_u {ds : List Dm} (hD : DsOk ds) (hF : FsOk ds) {c : Int} {cs : List Int} {rows : List (List Ty)} {d : Dm} (hcs : ∀ x ∈ c :: cs, cOk ds x) (hd : ds[c.toNat]? = some d) (hr : ∀ row ∈ rows, confL ds row (c :: cs) = true) {n : Nat} (hm : 5 * cnR rows + (c :: cs).length < n + 1) {u : Ty} (hu : u ∈ ctr rows []) :
    (∀ x ∈ flds d u ++ cs, cOk ds x) ∧ (∀ r' ∈ spc u.kd u.id (flds d u).length rows, confL ds r' (flds d u ++ cs) = true) ∧ 5 * cnR (spc u.kd u.id (flds d u).length rows) + (flds d u ++ cs).length < n ∧ (flds d u).length ≤ 4 := by
  obtain ⟨hcu, hu0, r, hur⟩ := ctr_conf hr hu
  have hlt := cnR_spc_lt (n := (flds d u).length) hu0 rfl rfl hur
  have h4 := flds_le hD (dom_mem hd) u
  refine ⟨fun x hx => ?_, spc_conf hD hF hd hr hcu hu0, by simp only [List.length_append, List.length_cons] at hm ⊢; omega, h4⟩
  rcases List.mem_append.1 hx with hx | hx
  · exact flds_cOk hF (dom_mem hd) u x hx
  · exact hcs x (by simp [hx])
theorem encL_take (xs : List Ty) (n : Nat) : (encL xs).take n = encL (xs.take n) := by rw [encL_map, encL_map, List.map_take]
theorem encL_drop (xs : List Ty) (n : Nat) : (encL xs).drop n = encL (xs.drop n) := by rw [encL_map, encL_map, List.map_drop]
set_option maxHeartbeats 4000000 in
theorem misRounds {ds : List Dm} {f : List Int → List (List Ty) → Option (List Ty)} {d : Dm} {c : Int} {cs : List Int} {rows : List (List Ty)} {us : List Ty} {r0 r1 : PV}
    (hus : us.length ≤ 1099511627776) (hcsl : cs.length ≤ 100000000) (hf4 : ∀ u ∈ us, (flds d u).length ≤ 4) (hsp : ∀ u ∈ us, SpB (flds d u).length rows)
    (hrow : ∀ u ∈ us, ∀ row, f (flds d u ++ cs) (spc u.kd u.id (flds d u).length rows) = some row → row.length = (flds d u ++ cs).length)
    (hrec : ∀ u ∈ us, PCall Try.prog 109 [.agg [.list 2 (encDm ds)], .list 1 (encI (flds d u ++ cs)), .list 1 (encLLP (spc u.kd u.id (flds d u).length rows))] (misV (f (flds d u ++ cs) (spc u.kd u.id (flds d u).length rows))))
    {K : Fr → Hp → Prop} (hK : ∀ fr H, awp Try.prog ((AC.reg [⟨some 6, .mov (.const (.slice none 0 0)), none⟩, ⟨some 7, .mov (.const (.bool false)), none⟩]).seq AC.ret) (retP [RV.tmp 6, RV.tmp 7] [r0, r1]) fr H → K fr H) :
    ∀ (rest pre : List Ty), pre ++ rest = us → misV (misL f d cs rows rest) = .tup [r0, r1] → loopN (awp Try.prog ac109_l0) (catch_ 0 (thn K (retP [RV.tmp 6, RV.tmp 7] [r0, r1]))) (rest.length + 1)
      [(58, .pv (ii pre.length)), (57, .pv (ii us.length)), (56, .pv (.list 3 (encL us))), (8, .ptr 1 0 0), (3, .ptr 0 0 0), (2, .pv (.list 1 (encLLP rows))), (1, .pv (.list 1 (encI (c :: cs))))]
      [some ⟨false, 138, 1, [[.pv (.list 2 (encDm ds))]], none⟩, some ⟨false, 132, 2, [[.pv (ii d.k), .pv (.list 2 (encVr d.vs))]], none⟩] := by
  intro rest
  induction rest with
  | nil =>
    intro pre hpre hr
    have hpre : pre = us := by simpa using hpre
    subst hpre
    simp only [misL, misV, PV.tup.injEq, List.cons.injEq, and_true] at hr
    obtain ⟨rfl, rfl⟩ := hr
    refine loopN_k fun K1 hK1 => ?_
    unfold ac109_l0
    (repeat' (first | ((with_reducible first | refine aops_cons' fun C hC => ?_ | refine aopsD_cons' fun C hC => ?_ | intro C hC); simp only [go_sem, lt_end]; ((with_reducible first | refine finA hC ?_ | refine finD hC ?_); clear hC C)) | (with_reducible first | refine awp_seq_k fun K hK => ?_ | refine awp_reg_k fun K hK => ?_ | refine awp_dreg_k fun K hK => ?_ | (refine aops_nil ?_; refine hK _ _ ?_; try clear hK K) | (refine aopsD_nil ?_; refine hK _ _ _ ?_ ?_; (focus kernel_rfl); try clear hK K) | (refine thn_normal ?_; refine hK _ _ ?_; try clear hK K) | refine catch_normal ?_ | refine awp_skip_k ?_ | refine awp_ret_k ?_ | refine awp_exit_k ?_ | refine awp_block_k ?_ | (refine thn_exit ?_; try clear hK K) | (refine thn_ret ?_; try clear hK K) | refine catch_ret ?_ | refine catch_exit ?_ | (refine catch_other ?_ ?_; focus decide)) | ((with_reducible first | apply aops_guard' | apply aopsD_guard' | apply awp_cond_g); focus (simp only [go_sem, lt_end]; exact rfl)) | (with_reducible first | refine gk_tt ?_ | refine gk_ff ?_ | refine ck_t ?_ | refine ck_f ?_) | ((with_reducible first | refine gk_tf ?_ | refine gk_ft ?_ | refine gk_u ?_ | refine gk_u' ?_); first | (intro _ e; (first | rw [put_some] at e | rw [put_none] at e); subst e) | (intro _ _ e e'; (first | rw [put_some] at e | rw [put_none] at e); subst e; subst e'))))
    (refine retP_ret (List.range 40) rfl ?_; (try simp only [encL, List.map_nil, if_true, if_false, Bool.false_eq_true, Bool.not_true, Bool.not_false]); exact vwA)
  | cons u rest ih =>
    intro pre hpre hr
    have hu : u ∈ us := by rw [← hpre]; simp
    have hlt : decide ((pre.length : Int) < (us.length : Int)) = true := by rw [← hpre]; exact lt_app _ _ _
    have hat : (encL us)[pre.length]? = some u.enc := by rw [← hpre]; exact encL_at _ _ _
    have hw := wrapS (n := pre.length) (by have := congrArg List.length hpre; simp at this; omega)
    have hfl := fields_ok d u
    have hde : d.enc = .agg [ii d.k, .list 2 (encVr d.vs)] := rfl
    have hue : u.enc = .agg [ii u.kd, ii u.id, .list 3 (encL u.args)] := by cases u; rfl
    rw [hde, hue] at hfl
    have hf := hf4 u hu
    have hc2 := concatI2 (flds d u) cs (by omega)
    have hs1 := slI c cs
    have hspc := spc_ok rows u.kd u.id (flds d u).length (hsp u hu)
    have hR := hrec u hu
    have hl := hrow u hu
    simp only [misL] at hr
    refine loopN_k fun K1 hK1 => ?_
    unfold ac109_l0
    cases hm : f (flds d u ++ cs) (spc u.kd u.id (flds d u).length rows) with
    | none =>
      rw [hm] at hR hr
      simp only [misV] at hR
      (repeat' (first | ((first | (with_reducible refine aops_call fun C hC => ?_) | (with_reducible refine aopsD_call fun C hC => ?_) | ((with_reducible intro C hC); (with_reducible refine ax_call_mp ?_))); (first | (simp only [go_sem, hlt, hat, cells_enc, pcells_enc, Ty.tc, encI_len, List.length_cons, one_le, hs1]; (first | ((with_reducible apply ACall.pure0 [] (hfl)); (focus (exact vwA))) | ((with_reducible apply ACall.pure0 [7] (hc2)); (focus (exact vwA))) | ((with_reducible apply ACall.pure0 [] (hspc)); (focus (exact vwA))) | ((with_reducible apply ACall.pure0 [] (hR)); (focus (exact vwA)))))); (simp only [PV.scal, PV.scalL, if_true, Bool.and_true, Bool.and_false, Bool.false_and, Bool.true_and, frz, List.map_nil, Bool.false_eq_true, if_false, ite_self, go_sem, hlt, hat, cells_enc, pcells_enc, Ty.tc, encI_len, List.length_cons, one_le, hs1]); ((with_reducible first | refine finA hC ?_ | refine finD hC ?_); clear hC C)) | ((with_reducible first | refine aops_cons' fun C hC => ?_ | refine aopsD_cons' fun C hC => ?_ | intro C hC); simp only [go_sem, hlt, hat, cells_enc, pcells_enc, Ty.tc, encI_len, List.length_cons, one_le, hs1]; ((with_reducible first | refine finA hC ?_ | refine finD hC ?_); clear hC C)) | (with_reducible first | refine awp_seq_k fun K hK => ?_ | refine awp_reg_k fun K hK => ?_ | refine awp_dreg_k fun K hK => ?_ | (refine aops_nil ?_; refine hK _ _ ?_; try clear hK K) | (refine aopsD_nil ?_; refine hK _ _ _ ?_ ?_; (focus kernel_rfl); try clear hK K) | (refine thn_normal ?_; refine hK _ _ ?_; try clear hK K) | refine catch_normal ?_ | refine awp_skip_k ?_ | refine awp_ret_k ?_ | refine awp_exit_k ?_ | refine awp_block_k ?_ | (refine thn_exit ?_; try clear hK K) | (refine thn_ret ?_; try clear hK K) | refine catch_ret ?_ | refine catch_exit ?_ | (refine catch_other ?_ ?_; focus decide)) | ((with_reducible first | apply aops_guard' | apply aopsD_guard' | apply awp_cond_g); focus (simp only [go_sem, hlt, hat, cells_enc, pcells_enc, Ty.tc, encI_len, List.length_cons, one_le, hs1]; exact rfl)) | (with_reducible first | refine gk_tt ?_ | refine gk_ff ?_ | refine ck_t ?_ | refine ck_f ?_) | ((with_reducible first | refine gk_tf ?_ | refine gk_ft ?_ | refine gk_u ?_ | refine gk_u' ?_); first | (intro _ e; (first | rw [put_some] at e | rw [put_none] at e); subst e) | (intro _ _ e e'; (first | rw [put_some] at e | rw [put_none] at e); subst e; subst e'))))
      refine thn_normal ?_
      refine hK1 _ _ _ _ _ (LeB [0, 1] (by refine ⟨?_, ?_, ?_⟩ <;> simp only [leFr, leFb, leHp, V.ren, V.renL, V.bd, V.bdL, allL, lt, Go.Ab.get, hget, List.map_cons, List.map_nil, List.length_cons, List.length_nil, List.length_append, List.getElem?_cons_zero, List.getElem?_cons_succ, List.getElem?_nil, Option.join_some, Option.join_none, List.getD_cons_zero, List.getD_cons_succ, List.getD_nil, Nat.reduceAdd, Nat.reduceLT, Nat.reduceEqDiff, Nat.zero_add, reduceIte, if_true, if_false, and_true, true_and, renL_vcells, allL_vcells, renL_pv, leBlk_some, eq_self, true_or, or_true, reduceCtorEq, false_or, hw, List.length_append])) (ih (pre ++ [u]) (by simp [hpre]) hr)
    | some row =>
      have hl' := hl row hm
      rw [hm] at hR hr
      simp only [misV, PV.tup.injEq, List.cons.injEq, and_true] at hR hr
      obtain ⟨rfl, rfl⟩ := hr
      have hle : (flds d u).length ≤ row.length := by rw [hl', List.length_append]; omega
      have hbd : 1 + (row.length - (flds d u).length) ≤ big := by rw [hl', List.length_append]; unfold big; omega
      have e1 : List.take (flds d u).length (encL row) = encL (row.take (flds d u).length) := encL_take _ _
      have e2 : List.drop (flds d u).length (List.take row.length (encL row)) = encL (row.drop (flds d u).length) := by
        have : row.length = (encL row).length := (encL_len row).symm
        rw [this, List.take_length, encL_drop]
      have hcl : (∀ x ∈ encL (row.drop (flds d u).length), x.cells.length = 3) = True := eq_true (cells_encL _)
      (repeat' (first | ((first | (with_reducible refine aops_call fun C hC => ?_) | (with_reducible refine aopsD_call fun C hC => ?_) | ((with_reducible intro C hC); (with_reducible refine ax_call_mp ?_))); (first | (simp only [go_sem, hlt, hat, cells_enc, pcells_enc, Ty.tc, encI_len, encL_len, List.length_cons, one_le, Nat.zero_le, Nat.le_refl, hs1, hle, hbd, e1, e2, hcl, vcellsP, List.length_map, List.length_drop]; (first | ((with_reducible apply ACall.pure0 [] (hfl)); (focus (exact vwA))) | ((with_reducible apply ACall.pure0 [7] (hc2)); (focus (exact vwA))) | ((with_reducible apply ACall.pure0 [] (hspc)); (focus (exact vwA))) | ((with_reducible apply ACall.pure0 [] (hR)); (focus (exact vwA)))))); (simp only [PV.scal, PV.scalL, if_true, Bool.and_true, Bool.and_false, Bool.false_and, Bool.true_and, frz, List.map_nil, Bool.false_eq_true, if_false, ite_self, go_sem, hlt, hat, cells_enc, pcells_enc, Ty.tc, encI_len, encL_len, List.length_cons, one_le, Nat.zero_le, Nat.le_refl, hs1, hle, hbd, e1, e2, hcl, vcellsP, List.length_map, List.length_drop]); ((with_reducible first | refine finA hC ?_ | refine finD hC ?_); clear hC C)) | ((with_reducible first | refine aops_cons' fun C hC => ?_ | refine aopsD_cons' fun C hC => ?_ | intro C hC); simp only [go_sem, hlt, hat, cells_enc, pcells_enc, Ty.tc, encI_len, encL_len, List.length_cons, one_le, Nat.zero_le, Nat.le_refl, hs1, hle, hbd, e1, e2, hcl, vcellsP, List.length_map, List.length_drop]; ((with_reducible first | refine finA hC ?_ | refine finD hC ?_); clear hC C)) | (with_reducible first | refine awp_seq_k fun K hK => ?_ | refine awp_reg_k fun K hK => ?_ | refine awp_dreg_k fun K hK => ?_ | (refine aops_nil ?_; refine hK _ _ ?_; try clear hK K) | (refine aopsD_nil ?_; refine hK _ _ _ ?_ ?_; (focus kernel_rfl); try clear hK K) | (refine thn_normal ?_; refine hK _ _ ?_; try clear hK K) | refine catch_normal ?_ | refine awp_skip_k ?_ | refine awp_ret_k ?_ | refine awp_exit_k ?_ | refine awp_block_k ?_ | (refine thn_exit ?_; try clear hK K) | (refine thn_ret ?_; try clear hK K) | refine catch_ret ?_ | refine catch_exit ?_ | (refine catch_other ?_ ?_; focus decide)) | ((with_reducible first | apply aops_guard' | apply aopsD_guard' | apply awp_cond_g); focus (simp only [go_sem, hlt, hat, cells_enc, pcells_enc, Ty.tc, encI_len, encL_len, List.length_cons, one_le, Nat.zero_le, Nat.le_refl, hs1, hle, hbd, e1, e2, hcl, vcellsP, List.length_map, List.length_drop]; exact rfl)) | (with_reducible first | refine gk_tt ?_ | refine gk_ff ?_ | refine ck_t ?_ | refine ck_f ?_) | ((with_reducible first | refine gk_tf ?_ | refine gk_ft ?_ | refine gk_u ?_ | refine gk_u' ?_); first | (intro _ e; (first | rw [put_some] at e | rw [put_none] at e); subst e) | (intro _ _ e e'; (first | rw [put_some] at e | rw [put_none] at e); subst e; subst e'))))
      refine retP_ret (List.range 40) rfl ?_
      exact .cons _ _ _ _ (row_ofP (xs := .mk u.kd u.id (row.take (flds d u).length) :: row.drop (flds d u).length) (by decide) rfl (by simp only [List.length_cons, List.length_drop]; omega)) (.cons _ _ _ _ (.pv _) .nil)
theorem ctr_len : ∀ (rows : List (List Ty)) (us : List Ty), (ctr rows us).length ≤ rows.length + us.length
  | [], us => by simp [ctr]
  | [] :: rows, us => by have := ctr_len rows us; simp only [ctr, List.length_cons]; omega
  | (p :: r) :: rows, us => by
    simp only [ctr]
    have := ctr_len rows (if (if p.kd == 0 then false else !(us.any fun q => q.id == p.id)) then us ++ [p] else us)
    by_cases h : (if p.kd == 0 then false else !(us.any fun q => q.id == p.id)) = true
    · rw [if_pos h] at this ⊢; simp only [List.length_append, List.length_cons, List.length_nil] at this ⊢; omega
    · rw [if_neg h] at this ⊢; simp only [List.length_cons]; omega
set_option maxHeartbeats 4000000 in
theorem mis_ok {ds : List Dm} (hD : DsOk ds) (hF : FsOk ds) : ∀ (n : Nat) (cols : List Int) (rows : List (List Ty)), (∀ c ∈ cols, cOk ds c) → (∀ row ∈ rows, confL ds row cols = true) → 5 * cnR rows + cols.length < n → n ≤ 100000000 →
    PCall Try.prog 109 [.agg [.list 2 (encDm ds)], .list 1 (encI cols), .list 1 (encLLP rows)] (misV (mis ds n cols rows))
  | 0, _, _, _, _, h, _ => by omega
  | n + 1, [], rows, _, _, _, _ => by
    have hgen : ∀ r0 r1, misV (mis ds (n + 1) [] rows) = .tup [r0, r1] → PCall Try.prog 109 [.agg [.list 2 (encDm ds)], .list 1 (encI []), .list 1 (encLLP rows)] (.tup [r0, r1]) := by
      intro r0 r1 hr
      refine PCall.intro (ps := [r0, r1]) fn109 (by simp) ?_
      unfold ac109
      simp only [argFr]
      cases h0 : ((rows.length : Int) == 0) with
      | true =>
        have h0' : (rows.length == 0) = true := by rw [beq_iff_eq] at h0 ⊢; omega
        simp only [mis, h0', if_true, misV, PV.tup.injEq, List.cons.injEq, and_true] at hr
        obtain ⟨rfl, rfl⟩ := hr
        (repeat' (first | ((with_reducible first | refine aops_cons' fun C hC => ?_ | refine aopsD_cons' fun C hC => ?_ | intro C hC); simp only [go_sem, encI_len, encLLP_len, List.length_nil, Int.ofNat_zero, h0]; ((with_reducible first | refine finA hC ?_ | refine finD hC ?_); clear hC C)) | (with_reducible first | refine awp_seq_k fun K hK => ?_ | refine awp_reg_k fun K hK => ?_ | refine awp_dreg_k fun K hK => ?_ | (refine aops_nil ?_; refine hK _ _ ?_; try clear hK K) | (refine aopsD_nil ?_; refine hK _ _ _ ?_ ?_; (focus kernel_rfl); try clear hK K) | (refine thn_normal ?_; refine hK _ _ ?_; try clear hK K) | refine catch_normal ?_ | refine awp_skip_k ?_ | refine awp_ret_k ?_ | refine awp_exit_k ?_ | refine awp_block_k ?_ | (refine thn_exit ?_; try clear hK K) | (refine thn_ret ?_; try clear hK K) | refine catch_ret ?_ | refine catch_exit ?_ | (refine catch_other ?_ ?_; focus decide)) | ((with_reducible first | apply aops_guard' | apply aopsD_guard' | apply awp_cond_g); focus (simp only [go_sem, encI_len, encLLP_len, List.length_nil, Int.ofNat_zero, h0]; exact rfl)) | (with_reducible first | refine gk_tt ?_ | refine gk_ff ?_ | refine ck_t ?_ | refine ck_f ?_) | ((with_reducible first | refine gk_tf ?_ | refine gk_ft ?_ | refine gk_u ?_ | refine gk_u' ?_); first | (intro _ e; (first | rw [put_some] at e | rw [put_none] at e); subst e) | (intro _ _ e e'; (first | rw [put_some] at e | rw [put_none] at e); subst e; subst e'))))
        (refine retP_ret (List.range 40) rfl ?_; (try simp only [encL, List.map_nil, if_true, if_false, Bool.false_eq_true, Bool.not_true, Bool.not_false]); exact vwA)
      | false =>
        have h0' : (rows.length == 0) = false := by rw [beq_eq_false_iff_ne] at h0 ⊢; omega
        simp only [mis, h0', Bool.false_eq_true, if_false, misV, PV.tup.injEq, List.cons.injEq, and_true] at hr
        obtain ⟨rfl, rfl⟩ := hr
        (repeat' (first | ((with_reducible first | refine aops_cons' fun C hC => ?_ | refine aopsD_cons' fun C hC => ?_ | intro C hC); simp only [go_sem, encI_len, encLLP_len, List.length_nil, Int.ofNat_zero, h0]; ((with_reducible first | refine finA hC ?_ | refine finD hC ?_); clear hC C)) | (with_reducible first | refine awp_seq_k fun K hK => ?_ | refine awp_reg_k fun K hK => ?_ | refine awp_dreg_k fun K hK => ?_ | (refine aops_nil ?_; refine hK _ _ ?_; try clear hK K) | (refine aopsD_nil ?_; refine hK _ _ _ ?_ ?_; (focus kernel_rfl); try clear hK K) | (refine thn_normal ?_; refine hK _ _ ?_; try clear hK K) | refine catch_normal ?_ | refine awp_skip_k ?_ | refine awp_ret_k ?_ | refine awp_exit_k ?_ | refine awp_block_k ?_ | (refine thn_exit ?_; try clear hK K) | (refine thn_ret ?_; try clear hK K) | refine catch_ret ?_ | refine catch_exit ?_ | (refine catch_other ?_ ?_; focus decide)) | ((with_reducible first | apply aops_guard' | apply aopsD_guard' | apply awp_cond_g); focus (simp only [go_sem, encI_len, encLLP_len, List.length_nil, Int.ofNat_zero, h0]; exact rfl)) | (with_reducible first | refine gk_tt ?_ | refine gk_ff ?_ | refine ck_t ?_ | refine ck_f ?_) | ((with_reducible first | refine gk_tf ?_ | refine gk_ft ?_ | refine gk_u ?_ | refine gk_u' ?_); first | (intro _ e; (first | rw [put_some] at e | rw [put_none] at e); subst e) | (intro _ _ e e'; (first | rw [put_some] at e | rw [put_none] at e); subst e; subst e'))))
        (refine retP_ret (List.range 40) rfl ?_; (try simp only [encL, List.map_nil, if_true, if_false, Bool.false_eq_true, Bool.not_true, Bool.not_false]); exact vwA)
    cases h : mis ds (n + 1) [] rows with
    | none => exact (h ▸ hgen) _ _ rfl
    | some p => exact (h ▸ hgen) _ _ rfl
  | n + 1, c :: cs, rows, hcs, hrr, hm, hn => by
    have hc := hcs c (by simp)
    obtain ⟨i, rfl⟩ := Int.eq_ofNat_of_zero_le hc.1
    obtain ⟨d, hd⟩ := cOk_get hc
    have hd' := hd
    simp only [Int.toNat_natCast] at hd'
    have hct := ctr_ok rows (fun row h => by obtain ⟨p, r, rfl, _⟩ := row_split (hrr row h); simp)
    have hab := absn_ok d (ctr rows [])
    have hrec := fun u (hu : u ∈ ctr rows []) => step_u hD hF hcs hd hrr hm hu
    have hcsl : cs.length ≤ 100000000 := by simp only [List.length_cons] at hm; omega
    have hdf := dfl_ok rows (spB_of hD hrr (by omega))
    have hle := cnR_spc (-1) 0 0 rows
    have hdr := mis_ok hD hF n cs (dfl rows) (fun x hx => hcs x (by simp [hx])) (dfl_conf hD hrr) (by simp only [List.length_cons] at hm; unfold dfl; omega) (by omega)
    have hgen : ∀ r0 r1, misV (mis ds (n + 1) (i :: cs) rows) = .tup [r0, r1] → PCall Try.prog 109 [.agg [.list 2 (encDm ds)], .list 1 (encI (i :: cs)), .list 1 (encLLP rows)] (.tup [r0, r1]) := by
      intro r0 r1 hr
      simp only [mis, hd] at hr
      refine PCall.intro' (ps := [r0, r1]) fn109 (by simp) fun hok => ?_
      have hul : (ctr rows []).length ≤ 1099511627776 := by
        have := ctr_len rows []
        simp only [PV.okL, PV.ok, encLLP_len, big] at hok
        have := hok.2.2.1.1
        simp only [List.length_nil] at *; omega
      clear hok
      have hat := encDm_get hd'
      have hhd := encI_hd i cs
      have hs1 := slI i cs
      have hnz : (((cs.length + 1 : Nat) : Int) == 0) = false := by rw [beq_eq_false_iff_ne]; omega
      have hde : d.enc = .agg [ii d.k, .list 2 (encVr d.vs)] := rfl
      unfold ac109
      simp only [argFr]
      cases ha : absn d (ctr rows []) with
      | none =>
        rw [ha] at hab
        simp only [optV, hde] at hab
        (repeat' (first | ((first | (with_reducible refine aops_call fun C hC => ?_) | (with_reducible refine aopsD_call fun C hC => ?_) | ((with_reducible intro C hC); (with_reducible refine ax_call_mp ?_))); (first | (simp only [go_sem, encI_len, encLLP_len, List.length_cons, hnz, hhd, hat, pcells_dm, cells_enc, pcells_enc, Ty.tc]; (first | ((with_reducible apply ACall.pure0 [] (hct)); (focus (exact vwA))) | ((with_reducible apply ACall.pure0 [] (hab)); (focus (exact vwA)))))); (simp only [PV.scal, PV.scalL, if_true, Bool.and_true, Bool.and_false, Bool.false_and, Bool.true_and, frz, List.map_nil, Bool.false_eq_true, if_false, ite_self, encI_len, encLLP_len, List.length_cons, hnz, hhd, hat, pcells_dm, cells_enc, pcells_enc, Ty.tc]); ((with_reducible first | refine finA hC ?_ | refine finD hC ?_); clear hC C)) | ((with_reducible first | refine aops_cons' fun C hC => ?_ | refine aopsD_cons' fun C hC => ?_ | intro C hC); simp only [go_sem, encI_len, encLLP_len, List.length_cons, hnz, hhd, hat, pcells_dm, cells_enc, pcells_enc, Ty.tc]; ((with_reducible first | refine finA hC ?_ | refine finD hC ?_); clear hC C)) | (with_reducible first | refine awp_seq_k fun K hK => ?_ | refine awp_reg_k fun K hK => ?_ | refine awp_dreg_k fun K hK => ?_ | (refine aops_nil ?_; refine hK _ _ ?_; try clear hK K) | (refine aopsD_nil ?_; refine hK _ _ _ ?_ ?_; (focus kernel_rfl); try clear hK K) | (refine thn_normal ?_; refine hK _ _ ?_; try clear hK K) | refine catch_normal ?_ | refine awp_skip_k ?_ | refine awp_ret_k ?_ | refine awp_exit_k ?_ | refine awp_block_k ?_ | (refine thn_exit ?_; try clear hK K) | (refine thn_ret ?_; try clear hK K) | refine catch_ret ?_ | refine catch_exit ?_ | (refine catch_other ?_ ?_; focus decide)) | ((with_reducible first | apply aops_guard' | apply aopsD_guard' | apply awp_cond_g); focus (simp only [go_sem, encI_len, encLLP_len, List.length_cons, hnz, hhd, hat, pcells_dm, cells_enc, pcells_enc, Ty.tc]; exact rfl)) | (with_reducible first | refine gk_tt ?_ | refine gk_ff ?_ | refine ck_t ?_ | refine ck_f ?_) | ((with_reducible first | refine gk_tf ?_ | refine gk_ft ?_ | refine gk_u ?_ | refine gk_u' ?_); first | (intro _ e; (first | rw [put_some] at e | rw [put_none] at e); subst e) | (intro _ _ e e'; (first | rw [put_some] at e | rw [put_none] at e); subst e; subst e'))))
        rw [ha] at hr
        refine awp_loop_k _ (LeB [0, 8] (by refine ⟨?_, ?_, ?_⟩ <;> simp only [leFr, leFb, leHp, V.ren, V.renL, V.bd, V.bdL, allL, lt, Go.Ab.get, hget, List.map_cons, List.map_nil, List.length_cons, List.length_nil, List.length_append, List.getElem?_cons_zero, List.getElem?_cons_succ, List.getElem?_nil, Option.join_some, Option.join_none, List.getD_cons_zero, List.getD_cons_succ, List.getD_nil, Nat.reduceAdd, Nat.reduceLT, Nat.reduceEqDiff, Nat.zero_add, reduceIte, if_true, if_false, and_true, true_and, renL_vcells, allL_vcells, renL_pv, leBlk_some, eq_self, true_or, or_true, reduceCtorEq, false_or, c0, encL_len])) (misRounds (c := (i : Int)) hul (by omega) (fun u hu => (hrec u hu).2.2.2) (fun u hu => spB_of hD hrr (by have := (hrec u hu).2.2.2; omega))
          (fun u hu row e => mis_len hD hF (hrec u hu).1 (hrec u hu).2.1 e) (fun u hu => mis_ok hD hF n _ _ (hrec u hu).1 (hrec u hu).2.1 (hrec u hu).2.2.1 (by omega)) hK (ctr rows []) [] rfl hr)
      | some p =>
        rw [ha] at hab hr
        simp only [optV, hde] at hab
        have hpe : p.enc = .agg [ii p.kd, ii p.id, .list 3 (encL p.args)] := by cases p; rfl
        rw [hpe] at hab
        cases hm : mis ds n cs (dfl rows) with
        | none =>
          rw [hm] at hr hdr
          simp only [misV] at hdr
          (repeat' (first | ((first | (with_reducible refine aops_call fun C hC => ?_) | (with_reducible refine aopsD_call fun C hC => ?_) | ((with_reducible intro C hC); (with_reducible refine ax_call_mp ?_))); (first | (simp only [go_sem, encI_len, encLLP_len, List.length_cons, hnz, hhd, hat, pcells_dm, cells_enc, pcells_enc, Ty.tc, one_le, hs1]; (first | ((with_reducible apply ACall.pure0 [] (hct)); (focus (exact vwA))) | ((with_reducible apply ACall.pure0 [] (hab)); (focus (exact vwA))) | ((with_reducible apply ACall.pure0 [] (hdf)); (focus (exact vwA))) | ((with_reducible apply ACall.pure0 [] (hdr)); (focus (exact vwA)))))); (simp only [PV.scal, PV.scalL, if_true, Bool.and_true, Bool.and_false, Bool.false_and, Bool.true_and, frz, List.map_nil, Bool.false_eq_true, if_false, ite_self, encI_len, encLLP_len, List.length_cons, hnz, hhd, hat, pcells_dm, cells_enc, pcells_enc, Ty.tc, one_le, hs1]); ((with_reducible first | refine finA hC ?_ | refine finD hC ?_); clear hC C)) | ((with_reducible first | refine aops_cons' fun C hC => ?_ | refine aopsD_cons' fun C hC => ?_ | intro C hC); simp only [go_sem, encI_len, encLLP_len, List.length_cons, hnz, hhd, hat, pcells_dm, cells_enc, pcells_enc, Ty.tc, one_le, hs1]; ((with_reducible first | refine finA hC ?_ | refine finD hC ?_); clear hC C)) | (with_reducible first | refine awp_seq_k fun K hK => ?_ | refine awp_reg_k fun K hK => ?_ | refine awp_dreg_k fun K hK => ?_ | (refine aops_nil ?_; refine hK _ _ ?_; try clear hK K) | (refine aopsD_nil ?_; refine hK _ _ _ ?_ ?_; (focus kernel_rfl); try clear hK K) | (refine thn_normal ?_; refine hK _ _ ?_; try clear hK K) | refine catch_normal ?_ | refine awp_skip_k ?_ | refine awp_ret_k ?_ | refine awp_exit_k ?_ | refine awp_block_k ?_ | (refine thn_exit ?_; try clear hK K) | (refine thn_ret ?_; try clear hK K) | refine catch_ret ?_ | refine catch_exit ?_ | (refine catch_other ?_ ?_; focus decide)) | ((with_reducible first | apply aops_guard' | apply aopsD_guard' | apply awp_cond_g); focus (simp only [go_sem, encI_len, encLLP_len, List.length_cons, hnz, hhd, hat, pcells_dm, cells_enc, pcells_enc, Ty.tc, one_le, hs1]; exact rfl)) | (with_reducible first | refine gk_tt ?_ | refine gk_ff ?_ | refine ck_t ?_ | refine ck_f ?_) | ((with_reducible first | refine gk_tf ?_ | refine gk_ft ?_ | refine gk_u ?_ | refine gk_u' ?_); first | (intro _ e; (first | rw [put_some] at e | rw [put_none] at e); subst e) | (intro _ _ e e'; (first | rw [put_some] at e | rw [put_none] at e); subst e; subst e'))))
          refine awp_loop_k _ (LeB [0, 8] (by refine ⟨?_, ?_, ?_⟩ <;> simp only [leFr, leFb, leHp, V.ren, V.renL, V.bd, V.bdL, allL, lt, Go.Ab.get, hget, List.map_cons, List.map_nil, List.length_cons, List.length_nil, List.length_append, List.getElem?_cons_zero, List.getElem?_cons_succ, List.getElem?_nil, Option.join_some, Option.join_none, List.getD_cons_zero, List.getD_cons_succ, List.getD_nil, Nat.reduceAdd, Nat.reduceLT, Nat.reduceEqDiff, Nat.zero_add, reduceIte, if_true, if_false, and_true, true_and, renL_vcells, allL_vcells, renL_pv, leBlk_some, eq_self, true_or, or_true, reduceCtorEq, false_or, c0, encL_len])) (misRounds (c := (i : Int)) hul (by omega) (fun u hu => (hrec u hu).2.2.2) (fun u hu => spB_of hD hrr (by have := (hrec u hu).2.2.2; omega))
            (fun u hu row e => mis_len hD hF (hrec u hu).1 (hrec u hu).2.1 e) (fun u hu => mis_ok hD hF n _ _ (hrec u hu).1 (hrec u hu).2.1 (hrec u hu).2.2.1 (by omega)) hK (ctr rows []) [] rfl hr)
        | some r =>
          have hl := mis_len hD hF (fun x hx => hcs x (by simp [hx])) (dfl_conf hD hrr) hm
          rw [hm] at hr hdr
          simp only [misV, PV.tup.injEq, List.cons.injEq, and_true] at hr hdr
          obtain ⟨rfl, rfl⟩ := hr
          have hbd : 1 + r.length ≤ big := by rw [hl]; unfold big; omega
          have hcl : (∀ x ∈ encL r, x.cells.length = 3) = True := eq_true (cells_encL _)
          (repeat' (first | ((first | (with_reducible refine aops_call fun C hC => ?_) | (with_reducible refine aopsD_call fun C hC => ?_) | ((with_reducible intro C hC); (with_reducible refine ax_call_mp ?_))); (first | (simp only [go_sem, encI_len, encLLP_len, encL_len, List.length_cons, hnz, hhd, hat, pcells_dm, cells_enc, pcells_enc, Ty.tc, one_le, hs1, hbd, hcl, vcellsP, List.length_map]; (first | ((with_reducible apply ACall.pure0 [] (hct)); (focus (exact vwA))) | ((with_reducible apply ACall.pure0 [] (hab)); (focus (exact vwA))) | ((with_reducible apply ACall.pure0 [] (hdf)); (focus (exact vwA))) | ((with_reducible apply ACall.pure0 [] (hdr)); (focus (exact vwA)))))); (simp only [PV.scal, PV.scalL, if_true, Bool.and_true, Bool.and_false, Bool.false_and, Bool.true_and, frz, List.map_nil, Bool.false_eq_true, if_false, ite_self, encI_len, encLLP_len, encL_len, List.length_cons, hnz, hhd, hat, pcells_dm, cells_enc, pcells_enc, Ty.tc, one_le, hs1, hbd, hcl, vcellsP, List.length_map]); ((with_reducible first | refine finA hC ?_ | refine finD hC ?_); clear hC C)) | ((with_reducible first | refine aops_cons' fun C hC => ?_ | refine aopsD_cons' fun C hC => ?_ | intro C hC); simp only [go_sem, encI_len, encLLP_len, encL_len, List.length_cons, hnz, hhd, hat, pcells_dm, cells_enc, pcells_enc, Ty.tc, one_le, hs1, hbd, hcl, vcellsP, List.length_map]; ((with_reducible first | refine finA hC ?_ | refine finD hC ?_); clear hC C)) | (with_reducible first | refine awp_seq_k fun K hK => ?_ | refine awp_reg_k fun K hK => ?_ | refine awp_dreg_k fun K hK => ?_ | (refine aops_nil ?_; refine hK _ _ ?_; try clear hK K) | (refine aopsD_nil ?_; refine hK _ _ _ ?_ ?_; (focus kernel_rfl); try clear hK K) | (refine thn_normal ?_; refine hK _ _ ?_; try clear hK K) | refine catch_normal ?_ | refine awp_skip_k ?_ | refine awp_ret_k ?_ | refine awp_exit_k ?_ | refine awp_block_k ?_ | (refine thn_exit ?_; try clear hK K) | (refine thn_ret ?_; try clear hK K) | refine catch_ret ?_ | refine catch_exit ?_ | (refine catch_other ?_ ?_; focus decide)) | ((with_reducible first | apply aops_guard' | apply aopsD_guard' | apply awp_cond_g); focus (simp only [go_sem, encI_len, encLLP_len, encL_len, List.length_cons, hnz, hhd, hat, pcells_dm, cells_enc, pcells_enc, Ty.tc, one_le, hs1, hbd, hcl, vcellsP, List.length_map]; exact rfl)) | (with_reducible first | refine gk_tt ?_ | refine gk_ff ?_ | refine ck_t ?_ | refine ck_f ?_) | ((with_reducible first | refine gk_tf ?_ | refine gk_ft ?_ | refine gk_u ?_ | refine gk_u' ?_); first | (intro _ e; (first | rw [put_some] at e | rw [put_none] at e); subst e) | (intro _ _ e e'; (first | rw [put_some] at e | rw [put_none] at e); subst e; subst e'))))
          refine retP_ret (List.range 40) rfl ?_
          exact .cons _ _ _ _ (row_ofP (xs := p :: r) (by decide) rfl (by simp only [List.length_cons]; omega)) (.cons _ _ _ _ (.pv _) .nil)
    cases h : mis ds (n + 1) (i :: cs) rows with
    | none => exact (h ▸ hgen) _ _ rfl
    | some p => exact (h ▸ hgen) _ _ rfl
end Go.Proofs.Ytbdoblgofddhdaa
