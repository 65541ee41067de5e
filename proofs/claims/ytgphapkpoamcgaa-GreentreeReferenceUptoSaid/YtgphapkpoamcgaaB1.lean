/- B1: joined from G8. -/
import Derived.Test.YtgphapkpoamcgaaFnG
import Derived.Test.YtgphapkpoamcgaaA9
/- Arenas: clones. -/
set_option maxRecDepth 10000
set_option linter.unusedSimpArgs false
set_option linter.unusedVariables false
namespace Go.Proofs.Ytgphapkpoamcgaa
open Go Go.Ab
-- vwR
theorem aopsD_frz {P : Program} {base i : Nat} {lks : List (List Nat)} {tr : List Foot} {fr : Fr} {H : Hp} {K : List Foot → Fr → Hp → Prop} {o : AOp} {os : List AOp} {lk : List Nat} (hg : o.g = none) (B : List Nat) (p : PV)
    (h : ∀ C : Kont, (∀ v rd δ fr' H' tr', Vw (hget (updL H δ)) B v p → put o.dst (.pv p) fr = fr' → updL (updL H δ) (frz (hget (updL H δ)) B) = H' → tr ++ [⟨lk, o.dst, rd ++ B, (δ ++ frz (hget (updL H δ)) B).map (·.1)⟩] = tr' → aopsD P base (i + 1) os lks fr' H' tr' K → C v rd δ) →
    AX P o.op (base + i) (get fr) (hget H) C) : aopsD P base i (o :: os) (lk :: lks) fr H tr K := by
  rw [aopsD, hg]
  refine .inr (h _ fun v rd δ fr' H' tr' hv e1 e2 e3 h => ⟨B, p, by rw [← hget_updL]; exact hv, ?_⟩)
  subst e1; subst e2; subst e3
  rw [← hget_updL, updL_append]; exact h
def gB (ns : List GN) : Blk := ⟨false, 122, 4, ns.map GN.tc, none⟩
def arB (v : V) : Blk := ⟨false, 75, 1, [[v]], none⟩
theorem vcellsG (xs : List GN) : (encG xs).map PV.vcells = xs.map GN.tc := by
  unfold encG; rw [List.map_map]
  exact List.map_congr_left fun t _ => rfl
theorem cellsG (xs : List GN) : (∀ x ∈ encG xs, x.cells.length = 4) = True := by
  refine eq_true fun x hx => ?_
  unfold encG at hx
  obtain ⟨t, _, rfl⟩ := List.mem_map.1 hx
  rfl
theorem renL_G {ρ : Nat → Nat} (xs : List GN) : (xs.map GN.tc).map (V.renL ρ) = xs.map GN.tc := by
  rw [List.map_map]; exact List.map_congr_left fun p _ => rfl
theorem renL_G1 {ρ : Nat → Nat} (x : GN) : V.renL ρ x.tc = x.tc := rfl
theorem bd_G {S : Nat → Prop} {xs : List GN} : ∀ cs ∈ xs.map GN.tc, V.bdL S cs := by
  intro cs hcs
  obtain ⟨p, _, rfl⟩ := List.mem_map.1 hcs
  simp [GN.tc, V.bdL, V.bd]
theorem allL_G {S : Nat → Prop} (xs : List GN) : allL S (xs.map GN.tc) = True := by
  simp only [allL_iff, eq_iff_iff, iff_true]; exact bd_G
theorem bdL_G1 {S : Nat → Prop} (x : GN) : V.bdL S x.tc = True := by simp [GN.tc, V.bdL, V.bd]
theorem VwE_G {h : HF} {B : List Nat} : ∀ (xs : List GN), VwE h B 4 (xs.map GN.tc) (encG xs)
  | [] => .nil 4
  | x :: xs => .cons 4 _ _ _ _ rfl (.cons _ _ _ _ (.pv _) (.cons _ _ _ _ (.pv _) (.cons _ _ _ _ (.pv _) (.cons _ _ _ _ (.pv _) .nil)))) (VwE_G xs)
theorem row_G {h : HF} {B : List Nat} {b n : Nat} {fl ro : Bool} {ty : Nat} {xs : List GN} {tg : Option (Nat × Nat × Nat)} (hb : b ∈ B) (hk : h b = some ⟨ro, ty, 4, xs.map GN.tc, tg⟩) (hn : n = xs.length) : Vw h B (.row b n fl) (.list 4 (encG xs)) :=
  row_view hb hk (by simp [hn]) (VwE_G xs)
theorem vwR {p : Prop} (h : p := by (repeat (first | exact Vw_enc _ | exact .nil | exact .pv _ | exact Vw_nil | exact Vw_some | (refine .cons _ _ _ _ ?_ ?_) | (refine .agg _ _ ?_) | (refine row_G ?_ rfl (by simp); (focus (decide))))); first | done | fail) : p := h
theorem HpOk_G (rs : List GN) : HpOk [some (gB rs)] := by
  refine ⟨fun b k e => ?_, fun b k e => ?_⟩ <;> (cases b with
    | zero => simp only [hget, List.getElem?_cons_zero, Option.join_some, Option.some.injEq] at e; subst e; first | rfl | exact bd_G
    | succ b => simp [hget] at e)
/-! ### slices.Clone -/
theorem cloneI_ok (xs : List Int) : PCall Try.prog 120 [.list 1 (encI xs)] (.list 1 (encI xs)) := by
  cases xs with
  | nil =>
    refine PCall.split (pre := []) (post := []) ?_ fun ad c => ?_
    · refine PCall.intro (ps := [.list 1 (encI [])]) fn120 (by simp) ?_
      unfold ac120
      simp only [List.nil_append, argFr]
      (repeat' (first | ((with_reducible first | refine aops_cons' fun C hC => ?_ | refine aopsD_cons' fun C hC => ?_ | intro C hC); simp only [go_sem]; ((with_reducible first | refine finA hC ?_ | refine finD hC ?_); clear hC C)) | (with_reducible first | refine awp_seq_k fun K hK => ?_ | refine awp_reg_k fun K hK => ?_ | refine awp_dreg_k fun K hK => ?_ | (refine aops_nil ?_; refine hK _ _ ?_; try clear hK K) | (refine aopsD_nil ?_; refine hK _ _ _ ?_ ?_; (focus kernel_rfl); try clear hK K) | (refine thn_normal ?_; refine hK _ _ ?_; try clear hK K) | refine catch_normal ?_ | refine awp_skip_k ?_ | refine awp_ret_k ?_ | refine awp_exit_k ?_ | refine awp_block_k ?_ | (refine thn_exit ?_; try clear hK K) | (refine thn_ret ?_; try clear hK K) | refine catch_ret ?_ | refine catch_exit ?_ | (refine catch_other ?_ ?_; focus decide)) | ((with_reducible first | apply aops_guard' | apply aopsD_guard' | apply awp_cond_g); focus (simp only [go_sem]; exact rfl)) | (with_reducible first | refine gk_tt ?_ | refine gk_ff ?_ | refine ck_t ?_ | refine ck_f ?_) | ((with_reducible first | refine gk_tf ?_ | refine gk_ft ?_ | refine gk_u ?_ | refine gk_u' ?_); first | (intro _ e; (first | rw [put_some] at e | rw [put_none] at e); subst e) | (intro _ _ e e'; (first | rw [put_some] at e | rw [put_none] at e); subst e; subst e'))))
      (refine retP_ret (List.range 40) rfl ?_; (first | exact vwA | exact vwR))
    · refine PCall.intro (ps := [.list 1 (encI [])]) fn120 (by simp) ?_
      unfold ac120
      simp only [List.nil_append, argFr]
      (repeat' (first | ((with_reducible first | refine aops_cons' fun C hC => ?_ | refine aopsD_cons' fun C hC => ?_ | intro C hC); simp only [go_sem, Nat.zero_le]; ((with_reducible first | refine finA hC ?_ | refine finD hC ?_); clear hC C)) | (with_reducible first | refine awp_seq_k fun K hK => ?_ | refine awp_reg_k fun K hK => ?_ | refine awp_dreg_k fun K hK => ?_ | (refine aops_nil ?_; refine hK _ _ ?_; try clear hK K) | (refine aopsD_nil ?_; refine hK _ _ _ ?_ ?_; (focus kernel_rfl); try clear hK K) | (refine thn_normal ?_; refine hK _ _ ?_; try clear hK K) | refine catch_normal ?_ | refine awp_skip_k ?_ | refine awp_ret_k ?_ | refine awp_exit_k ?_ | refine awp_block_k ?_ | (refine thn_exit ?_; try clear hK K) | (refine thn_ret ?_; try clear hK K) | refine catch_ret ?_ | refine catch_exit ?_ | (refine catch_other ?_ ?_; focus decide)) | ((with_reducible first | apply aops_guard' | apply aopsD_guard' | apply awp_cond_g); focus (simp only [go_sem, Nat.zero_le]; exact rfl)) | (with_reducible first | refine gk_tt ?_ | refine gk_ff ?_ | refine ck_t ?_ | refine ck_f ?_) | ((with_reducible first | refine gk_tf ?_ | refine gk_ft ?_ | refine gk_u ?_ | refine gk_u' ?_); first | (intro _ e; (first | rw [put_some] at e | rw [put_none] at e); subst e) | (intro _ _ e e'; (first | rw [put_some] at e | rw [put_none] at e); subst e; subst e'))))
      refine retP_ret (List.range 40) rfl ?_
      exact .cons _ _ _ _ (row_ii (xs := []) (b := 1) (by decide) rfl) .nil
  | cons x xs =>
    refine PCall.intro' (ps := [.list 1 (encI (x :: xs))]) fn120 (by simp) fun hok => ?_
    have hb : xs.length + 1 ≤ big := by simpa [PV.okL, PV.ok, encI_len] using hok.1.1
    clear hok
    have hv : (encI xs).map PV.vcells = xs.map cI := by
      unfold encI; rw [List.map_map]
      exact List.map_congr_left fun t _ => rfl
    have hc : (∀ y ∈ (ii x :: encI xs), y.cells.length = 1) = True := eq_true fun y hy => by
      have hy : y ∈ encI (x :: xs) := hy
      simp only [encI, List.mem_map] at hy
      obtain ⟨z, _, rfl⟩ := hy; rfl
    have hq : encI (x :: xs) = ii x :: encI xs := rfl
    unfold ac120
    simp only [argFr]
    (repeat' (first | ((with_reducible first | refine aops_cons' fun C hC => ?_ | refine aopsD_cons' fun C hC => ?_ | intro C hC); simp only [go_sem, hq, hv, hc, pc_lit, encI_len, List.length_map, hb]; ((with_reducible first | refine finA hC ?_ | refine finD hC ?_); clear hC C)) | (with_reducible first | refine awp_seq_k fun K hK => ?_ | refine awp_reg_k fun K hK => ?_ | refine awp_dreg_k fun K hK => ?_ | (refine aops_nil ?_; refine hK _ _ ?_; try clear hK K) | (refine aopsD_nil ?_; refine hK _ _ _ ?_ ?_; (focus kernel_rfl); try clear hK K) | (refine thn_normal ?_; refine hK _ _ ?_; try clear hK K) | refine catch_normal ?_ | refine awp_skip_k ?_ | refine awp_ret_k ?_ | refine awp_exit_k ?_ | refine awp_block_k ?_ | (refine thn_exit ?_; try clear hK K) | (refine thn_ret ?_; try clear hK K) | refine catch_ret ?_ | refine catch_exit ?_ | (refine catch_other ?_ ?_; focus decide)) | ((with_reducible first | apply aops_guard' | apply aopsD_guard' | apply awp_cond_g); focus (simp only [go_sem, hq, hv, hc, pc_lit, encI_len, List.length_map, hb]; exact rfl)) | (with_reducible first | refine gk_tt ?_ | refine gk_ff ?_ | refine ck_t ?_ | refine ck_f ?_) | ((with_reducible first | refine gk_tf ?_ | refine gk_ft ?_ | refine gk_u ?_ | refine gk_u' ?_); first | (intro _ e; (first | rw [put_some] at e | rw [put_none] at e); subst e) | (intro _ _ e e'; (first | rw [put_some] at e | rw [put_none] at e); subst e; subst e'))))
    refine retP_ret (List.range 40) rfl ?_
    exact .cons _ _ _ _ (row_ii (xs := x :: xs) (b := 1) (by decide) rfl) .nil
theorem cloneG_ok (ns : List GN) (h0 : ns ≠ []) (hl : ns.length ≤ 1099511627776) : MCall Try.prog 119 [.pv (.list 4 (encG ns))] [] (.row 0 ns.length false) [some (gB ns)] := by
  obtain ⟨x, xs, rfl⟩ : ∃ x xs, ns = x :: xs := by
    cases ns with
    | nil => exact absurd rfl h0
    | cons x xs => exact ⟨x, xs, rfl⟩
  have hb : xs.length + 1 ≤ big := hl
  have hv := vcellsG xs
  have hc : (∀ y ∈ (x.enc :: encG xs), y.cells.length = 4) = True := cellsG (x :: xs)
  have hq : encG (x :: xs) = x.enc :: encG xs := rfl
  refine MCall.intro fn119 (by simp) (by simp) (by simp) (by simp) HpOk_nil (HpOk_G _) ⟨trivial, trivial⟩ ⟨_, rfl⟩ fun m => ?_
  unfold ac119
  simp only [argFrV, tagN, List.length_nil]
  (repeat' (first | ((with_reducible first | refine aops_cons' fun C hC => ?_ | refine aopsD_cons' fun C hC => ?_ | intro C hC); simp only [go_sem, hq, hv, hc, pcells_gn, encG_len, List.length_map, hb]; ((with_reducible first | refine finA hC ?_ | refine finD hC ?_); clear hC C)) | (with_reducible first | refine awp_seq_k fun K hK => ?_ | refine awp_reg_k fun K hK => ?_ | refine awp_dreg_k fun K hK => ?_ | (refine aops_nil ?_; refine hK _ _ ?_; try clear hK K) | (refine aopsD_nil ?_; refine hK _ _ _ ?_ ?_; (focus kernel_rfl); try clear hK K) | (refine thn_normal ?_; refine hK _ _ ?_; try clear hK K) | refine catch_normal ?_ | refine awp_skip_k ?_ | refine awp_ret_k ?_ | refine awp_exit_k ?_ | refine awp_block_k ?_ | (refine thn_exit ?_; try clear hK K) | (refine thn_ret ?_; try clear hK K) | refine catch_ret ?_ | refine catch_exit ?_ | (refine catch_other ?_ ?_; focus decide)) | ((with_reducible first | apply aops_guard' | apply aopsD_guard' | apply awp_cond_g); focus (simp only [go_sem, hq, hv, hc, pcells_gn, encG_len, List.length_map, hb]; exact rfl)) | (with_reducible first | refine gk_tt ?_ | refine gk_ff ?_ | refine ck_t ?_ | refine ck_f ?_) | ((with_reducible first | refine gk_tf ?_ | refine gk_ft ?_ | refine gk_u ?_ | refine gk_u' ?_); first | (intro _ e; (first | rw [put_some] at e | rw [put_none] at e); subst e) | (intro _ _ e e'; (first | rw [put_some] at e | rw [put_none] at e); subst e; subst e'))))
  refine ⟨_, rfl, fun b => [1].getD b 0, ?_⟩
  simp only [tagN, Option.map_some, Nat.lt_irrefl, if_false, gB]
  exact (LeB [1] (by refine ⟨?_, ?_, ?_⟩ <;> simp only [leFr, leFb, leHp, V.ren, V.renL, V.bd, V.bdL, allL, lt, Go.Ab.get, hget, List.map_cons, List.map_nil, List.length_cons, List.length_nil, List.length_append, List.getElem?_cons_zero, List.getElem?_cons_succ, List.getElem?_nil, Option.join_some, Option.join_none, List.getD_cons_zero, List.getD_cons_succ, List.getD_nil, Nat.reduceAdd, Nat.reduceLT, Nat.reduceEqDiff, Nat.zero_add, reduceIte, if_true, if_false, and_true, true_and, renL_vcells, allL_vcells, renL_pv, leBlk_some, eq_self, true_or, or_true, reduceCtorEq, false_or, allL, oneW, allL_G, renL_G, GN.tc]))
theorem cloneGE_ok (ad : Addr) (c : Nat) : MCall Try.prog 119 [.pv (.lit (.slice (some ad) 0 c))] [] (.row 0 0 false) [some (gB [])] := by
  refine MCall.intro fn119 (by simp) (by simp) (by simp) (by simp) HpOk_nil (HpOk_G _) ⟨trivial, trivial⟩ ⟨_, rfl⟩ fun m => ?_
  unfold ac119
  simp only [argFrV, tagN, List.length_nil]
  (repeat' (first | ((with_reducible first | refine aops_cons' fun C hC => ?_ | refine aopsD_cons' fun C hC => ?_ | intro C hC); simp only [go_sem, Nat.zero_le]; ((with_reducible first | refine finA hC ?_ | refine finD hC ?_); clear hC C)) | (with_reducible first | refine awp_seq_k fun K hK => ?_ | refine awp_reg_k fun K hK => ?_ | refine awp_dreg_k fun K hK => ?_ | (refine aops_nil ?_; refine hK _ _ ?_; try clear hK K) | (refine aopsD_nil ?_; refine hK _ _ _ ?_ ?_; (focus kernel_rfl); try clear hK K) | (refine thn_normal ?_; refine hK _ _ ?_; try clear hK K) | refine catch_normal ?_ | refine awp_skip_k ?_ | refine awp_ret_k ?_ | refine awp_exit_k ?_ | refine awp_block_k ?_ | (refine thn_exit ?_; try clear hK K) | (refine thn_ret ?_; try clear hK K) | refine catch_ret ?_ | refine catch_exit ?_ | (refine catch_other ?_ ?_; focus decide)) | ((with_reducible first | apply aops_guard' | apply aopsD_guard' | apply awp_cond_g); focus (simp only [go_sem, Nat.zero_le]; exact rfl)) | (with_reducible first | refine gk_tt ?_ | refine gk_ff ?_ | refine ck_t ?_ | refine ck_f ?_) | ((with_reducible first | refine gk_tf ?_ | refine gk_ft ?_ | refine gk_u ?_ | refine gk_u' ?_); first | (intro _ e; (first | rw [put_some] at e | rw [put_none] at e); subst e) | (intro _ _ e e'; (first | rw [put_some] at e | rw [put_none] at e); subst e; subst e'))))
  refine ⟨_, rfl, fun b => [1].getD b 0, ?_⟩
  simp only [tagN, Option.map_some, Nat.lt_irrefl, if_false, gB, List.map_nil]
  exact (LeB [1] (by refine ⟨?_, ?_, ?_⟩ <;> simp only [leFr, leFb, leHp, V.ren, V.renL, V.bd, V.bdL, allL, lt, Go.Ab.get, hget, List.map_cons, List.map_nil, List.length_cons, List.length_nil, List.length_append, List.getElem?_cons_zero, List.getElem?_cons_succ, List.getElem?_nil, Option.join_some, Option.join_none, List.getD_cons_zero, List.getD_cons_succ, List.getD_nil, Nat.reduceAdd, Nat.reduceLT, Nat.reduceEqDiff, Nat.zero_add, reduceIte, if_true, if_false, and_true, true_and, renL_vcells, allL_vcells, renL_pv, leBlk_some, eq_self, true_or, or_true, reduceCtorEq, false_or, allL, oneW]))
theorem cloneGN_ok : PCall Try.prog 119 [.lit (.slice none 0 0)] (.lit (.slice none 0 0)) := by
  refine PCall.intro (ps := [.lit (.slice none 0 0)]) fn119 (by simp) ?_
  unfold ac119
  simp only [argFr]
  (repeat' (first | ((with_reducible first | refine aops_cons' fun C hC => ?_ | refine aopsD_cons' fun C hC => ?_ | intro C hC); simp only [go_sem]; ((with_reducible first | refine finA hC ?_ | refine finD hC ?_); clear hC C)) | (with_reducible first | refine awp_seq_k fun K hK => ?_ | refine awp_reg_k fun K hK => ?_ | refine awp_dreg_k fun K hK => ?_ | (refine aops_nil ?_; refine hK _ _ ?_; try clear hK K) | (refine aopsD_nil ?_; refine hK _ _ _ ?_ ?_; (focus kernel_rfl); try clear hK K) | (refine thn_normal ?_; refine hK _ _ ?_; try clear hK K) | refine catch_normal ?_ | refine awp_skip_k ?_ | refine awp_ret_k ?_ | refine awp_exit_k ?_ | refine awp_block_k ?_ | (refine thn_exit ?_; try clear hK K) | (refine thn_ret ?_; try clear hK K) | refine catch_ret ?_ | refine catch_exit ?_ | (refine catch_other ?_ ?_; focus decide)) | ((with_reducible first | apply aops_guard' | apply aopsD_guard' | apply awp_cond_g); focus (simp only [go_sem]; exact rfl)) | (with_reducible first | refine gk_tt ?_ | refine gk_ff ?_ | refine ck_t ?_ | refine ck_f ?_) | ((with_reducible first | refine gk_tf ?_ | refine gk_ft ?_ | refine gk_u ?_ | refine gk_u' ?_); first | (intro _ e; (first | rw [put_some] at e | rw [put_none] at e); subst e) | (intro _ _ e e'; (first | rw [put_some] at e | rw [put_none] at e); subst e; subst e'))))
  (refine retP_ret (List.range 40) rfl ?_; (first | exact vwA | exact vwR))
/-! ### the reference's Clone -/
theorem clone4_ok (ns : List GN) (h0 : ns ≠ []) (hl : ns.length ≤ 1099511627776) : MCall Try.prog 104 [.pv (.list 4 (encG ns))] [] (.row 0 ns.length false) [some (gB ns)] := by
  obtain ⟨x, xs, rfl⟩ : ∃ x xs, ns = x :: xs := by
    cases ns with
    | nil => exact absurd rfl h0
    | cons x xs => exact ⟨x, xs, rfl⟩
  have hb : xs.length + 1 ≤ big := hl
  have hv := vcellsG xs
  have hc : (∀ y ∈ (x.enc :: encG xs), y.cells.length = 4) = True := cellsG (x :: xs)
  have hq : encG (x :: xs) = x.enc :: encG xs := rfl
  refine MCall.intro fn104 (by simp) (by simp) (by simp) (by simp) HpOk_nil (HpOk_G _) ⟨trivial, trivial⟩ ⟨_, rfl⟩ fun m => ?_
  unfold ac104
  simp only [argFrV, tagN, List.length_nil]
  (repeat' (first | ((with_reducible first | refine aops_cons' fun C hC => ?_ | refine aopsD_cons' fun C hC => ?_ | intro C hC); simp only [go_sem, hq, hv, hc, pcells_gn, encG_len, List.length_map, hb]; ((with_reducible first | refine finA hC ?_ | refine finD hC ?_); clear hC C)) | (with_reducible first | refine awp_seq_k fun K hK => ?_ | refine awp_reg_k fun K hK => ?_ | refine awp_dreg_k fun K hK => ?_ | (refine aops_nil ?_; refine hK _ _ ?_; try clear hK K) | (refine aopsD_nil ?_; refine hK _ _ _ ?_ ?_; (focus kernel_rfl); try clear hK K) | (refine thn_normal ?_; refine hK _ _ ?_; try clear hK K) | refine catch_normal ?_ | refine awp_skip_k ?_ | refine awp_ret_k ?_ | refine awp_exit_k ?_ | refine awp_block_k ?_ | (refine thn_exit ?_; try clear hK K) | (refine thn_ret ?_; try clear hK K) | refine catch_ret ?_ | refine catch_exit ?_ | (refine catch_other ?_ ?_; focus decide)) | ((with_reducible first | apply aops_guard' | apply aopsD_guard' | apply awp_cond_g); focus (simp only [go_sem, hq, hv, hc, pcells_gn, encG_len, List.length_map, hb]; exact rfl)) | (with_reducible first | refine gk_tt ?_ | refine gk_ff ?_ | refine ck_t ?_ | refine ck_f ?_) | ((with_reducible first | refine gk_tf ?_ | refine gk_ft ?_ | refine gk_u ?_ | refine gk_u' ?_); first | (intro _ e; (first | rw [put_some] at e | rw [put_none] at e); subst e) | (intro _ _ e e'; (first | rw [put_some] at e | rw [put_none] at e); subst e; subst e'))))
  refine ⟨_, rfl, fun b => [0].getD b 0, ?_⟩
  simp only [tagN, Option.map_some, Nat.lt_irrefl, if_false, gB]
  exact (LeB [0] (by refine ⟨?_, ?_, ?_⟩ <;> simp only [leFr, leFb, leHp, V.ren, V.renL, V.bd, V.bdL, allL, lt, Go.Ab.get, hget, List.map_cons, List.map_nil, List.length_cons, List.length_nil, List.length_append, List.getElem?_cons_zero, List.getElem?_cons_succ, List.getElem?_nil, Option.join_some, Option.join_none, List.getD_cons_zero, List.getD_cons_succ, List.getD_nil, Nat.reduceAdd, Nat.reduceLT, Nat.reduceEqDiff, Nat.zero_add, reduceIte, if_true, if_false, and_true, true_and, renL_vcells, allL_vcells, renL_pv, leBlk_some, eq_self, true_or, or_true, reduceCtorEq, false_or, allL, oneW, allL_G, renL_G, GN.tc]))
theorem clone4E_ok (ad : Addr) (c : Nat) : PCall Try.prog 104 [.lit (.slice (some ad) 0 c)] (.lit (.slice none 0 0)) := by
  refine PCall.intro (ps := [.lit (.slice none 0 0)]) fn104 (by simp) ?_
  unfold ac104
  simp only [argFr]
  (repeat' (first | ((with_reducible first | refine aops_cons' fun C hC => ?_ | refine aopsD_cons' fun C hC => ?_ | intro C hC); simp only [go_sem]; ((with_reducible first | refine finA hC ?_ | refine finD hC ?_); clear hC C)) | (with_reducible first | refine awp_seq_k fun K hK => ?_ | refine awp_reg_k fun K hK => ?_ | refine awp_dreg_k fun K hK => ?_ | (refine aops_nil ?_; refine hK _ _ ?_; try clear hK K) | (refine aopsD_nil ?_; refine hK _ _ _ ?_ ?_; (focus kernel_rfl); try clear hK K) | (refine thn_normal ?_; refine hK _ _ ?_; try clear hK K) | refine catch_normal ?_ | refine awp_skip_k ?_ | refine awp_ret_k ?_ | refine awp_exit_k ?_ | refine awp_block_k ?_ | (refine thn_exit ?_; try clear hK K) | (refine thn_ret ?_; try clear hK K) | refine catch_ret ?_ | refine catch_exit ?_ | (refine catch_other ?_ ?_; focus decide)) | ((with_reducible first | apply aops_guard' | apply aopsD_guard' | apply awp_cond_g); focus (simp only [go_sem]; exact rfl)) | (with_reducible first | refine gk_tt ?_ | refine gk_ff ?_ | refine ck_t ?_ | refine ck_f ?_) | ((with_reducible first | refine gk_tf ?_ | refine gk_ft ?_ | refine gk_u ?_ | refine gk_u' ?_); first | (intro _ e; (first | rw [put_some] at e | rw [put_none] at e); subst e) | (intro _ _ e e'; (first | rw [put_some] at e | rw [put_none] at e); subst e; subst e'))))
  (refine retP_ret (List.range 40) rfl ?_; (first | exact vwA | exact vwR))
theorem clone4N_ok : PCall Try.prog 104 [.lit (.slice none 0 0)] (.lit (.slice none 0 0)) := by
  refine PCall.intro (ps := [.lit (.slice none 0 0)]) fn104 (by simp) ?_
  unfold ac104
  simp only [argFr]
  (repeat' (first | ((with_reducible first | refine aops_cons' fun C hC => ?_ | refine aopsD_cons' fun C hC => ?_ | intro C hC); simp only [go_sem]; ((with_reducible first | refine finA hC ?_ | refine finD hC ?_); clear hC C)) | (with_reducible first | refine awp_seq_k fun K hK => ?_ | refine awp_reg_k fun K hK => ?_ | refine awp_dreg_k fun K hK => ?_ | (refine aops_nil ?_; refine hK _ _ ?_; try clear hK K) | (refine aopsD_nil ?_; refine hK _ _ _ ?_ ?_; (focus kernel_rfl); try clear hK K) | (refine thn_normal ?_; refine hK _ _ ?_; try clear hK K) | refine catch_normal ?_ | refine awp_skip_k ?_ | refine awp_ret_k ?_ | refine awp_exit_k ?_ | refine awp_block_k ?_ | (refine thn_exit ?_; try clear hK K) | (refine thn_ret ?_; try clear hK K) | refine catch_ret ?_ | refine catch_exit ?_ | (refine catch_other ?_ ?_; focus decide)) | ((with_reducible first | apply aops_guard' | apply aopsD_guard' | apply awp_cond_g); focus (simp only [go_sem]; exact rfl)) | (with_reducible first | refine gk_tt ?_ | refine gk_ff ?_ | refine ck_t ?_ | refine ck_f ?_) | ((with_reducible first | refine gk_tf ?_ | refine gk_ft ?_ | refine gk_u ?_ | refine gk_u' ?_); first | (intro _ e; (first | rw [put_some] at e | rw [put_none] at e); subst e) | (intro _ _ e e'; (first | rw [put_some] at e | rw [put_none] at e); subst e; subst e'))))
  (refine retP_ret (List.range 40) rfl ?_; (first | exact vwA | exact vwR))
theorem RP_emptyA {I : Imm} {sz : Nat} {u : Value} (h : RP I (.agg [.list sz []]) u) : RP I (.agg [.lit (.slice none 0 0)]) u ∨ ∃ ad c, RP I (.agg [.lit (.slice (some ad) 0 c)]) u := by
  simp only [RP, RPL] at h
  obtain ⟨us, rfl, hl, u, us', h1, h2, rfl⟩ := h
  rcases RP_empty (show RP I (.list sz []) u by simpa only [RP] using h2) with h3 | ⟨ad, c, h3⟩
  · left
    simp only [RP, RPL] at h3 ⊢
    exact ⟨us, rfl, hl, u, [], h1, h3, rfl⟩
  · right
    simp only [RP, RPL] at h3 ⊢
    exact ⟨ad, c, us, rfl, hl, u, [], h1, h3, rfl⟩
theorem PCall.splitA {P : Program} {f : FuncId} {pre post : List PV} {sz : Nat} {r : PV} (h0 : PCall P f (pre ++ .agg [.lit (.slice none 0 0)] :: post) r) (h1 : ∀ ad c, PCall P f (pre ++ .agg [.lit (.slice (some ad) 0 c)] :: post) r) : PCall P f (pre ++ .agg [.list sz []] :: post) r := by
  refine ⟨h0.1, fun I w us hI hus => ?_⟩
  obtain ⟨u1, u, u2, rfl, e1, e2, e3⟩ := RPL_split hus
  rcases RP_emptyA e2 with e2 | ⟨ad, c, e2⟩
  · exact h0.2 I w _ hI (RPL_append e1 ⟨u, u2, rfl, e2, e3⟩)
  · exact (h1 ad c).2 I w _ hI (RPL_append e1 ⟨u, u2, rfl, e2, e3⟩)
/-! ### clone -/
theorem hh0 {h : HF} {ρ : List Nat} {nb : Nat} : ∀ i k, hget [] i = some k → ∃ k', h (rho ρ nb i) = some k' ∧ BlkWk (rho ρ nb) k' k := fun i k ek => by simp [hget] at ek
theorem clone1_ok (ns : List GN) (h0 : ns ≠ []) (hl : ns.length ≤ 1048576) : MCall Try.prog 100 [.pv (.agg [.list 4 (encG ns)])] [] (.agg [.row 0 ns.length false]) [some (gB ns)] := by
  have hc := cloneG_ok ns h0 (by omega)
  refine MCall.intro fn100 (by simp) (by simp) (by simp) (by simp) HpOk_nil (HpOk_G _) ⟨trivial, trivial⟩ ⟨⟨_, rfl⟩, trivial⟩ fun m => ?_
  unfold ac100
  simp only [argFrV, tagN, List.length_nil]
  (repeat' (first | ((with_reducible first | refine aops_cons' fun C hC => ?_ | refine aopsD_cons' fun C hC => ?_ | intro C hC); simp only [go_sem, vc_agg]; ((with_reducible first | refine finA hC ?_ | refine finD hC ?_); clear hC C)) | (with_reducible first | refine awp_seq_k fun K hK => ?_ | refine awp_reg_k fun K hK => ?_ | refine awp_dreg_k fun K hK => ?_ | (refine aops_nil ?_; refine hK _ _ ?_; try clear hK K) | (refine aopsD_nil ?_; refine hK _ _ _ ?_ ?_; (focus kernel_rfl); try clear hK K) | (refine thn_normal ?_; refine hK _ _ ?_; try clear hK K) | refine catch_normal ?_ | refine awp_skip_k ?_ | refine awp_ret_k ?_ | refine awp_exit_k ?_ | refine awp_block_k ?_ | (refine thn_exit ?_; try clear hK K) | (refine thn_ret ?_; try clear hK K) | refine catch_ret ?_ | refine catch_exit ?_ | (refine catch_other ?_ ?_; focus decide)) | ((with_reducible first | apply aops_guard' | apply aopsD_guard' | apply awp_cond_g); focus (simp only [go_sem, vc_agg]; exact rfl)) | (with_reducible first | refine gk_tt ?_ | refine gk_ff ?_ | refine ck_t ?_ | refine ck_f ?_) | ((with_reducible first | refine gk_tf ?_ | refine gk_ft ?_ | refine gk_u ?_ | refine gk_u' ?_); first | (intro _ e; (first | rw [put_some] at e | rw [put_none] at e); subst e) | (intro _ _ e e'; (first | rw [put_some] at e | rw [put_none] at e); subst e; subst e'))))
  refine aops_call fun C hC => ?_
  simp only [go_sem]
  refine ACall.heap [] hc rfl (by decide) (by decide) (VM.eq (.pv (.list 4 (encG ns))) _ _ .nil) hh0 ?_
  simp only [V.ren, V.renL, outD, rhoN, Option.map_some, gB, renL_G]
  (with_reducible refine finA hC ?_); clear hC C
  (repeat' (first | ((with_reducible first | refine aops_cons' fun C hC => ?_ | refine aopsD_cons' fun C hC => ?_ | intro C hC); simp only [go_sem, vc_agg]; ((with_reducible first | refine finA hC ?_ | refine finD hC ?_); clear hC C)) | (with_reducible first | refine awp_seq_k fun K hK => ?_ | refine awp_reg_k fun K hK => ?_ | refine awp_dreg_k fun K hK => ?_ | (refine aops_nil ?_; refine hK _ _ ?_; try clear hK K) | (refine aopsD_nil ?_; refine hK _ _ _ ?_ ?_; (focus kernel_rfl); try clear hK K) | (refine thn_normal ?_; refine hK _ _ ?_; try clear hK K) | refine catch_normal ?_ | refine awp_skip_k ?_ | refine awp_ret_k ?_ | refine awp_exit_k ?_ | refine awp_block_k ?_ | (refine thn_exit ?_; try clear hK K) | (refine thn_ret ?_; try clear hK K) | refine catch_ret ?_ | refine catch_exit ?_ | (refine catch_other ?_ ?_; focus decide)) | ((with_reducible first | apply aops_guard' | apply aopsD_guard' | apply awp_cond_g); focus (simp only [go_sem, vc_agg]; exact rfl)) | (with_reducible first | refine gk_tt ?_ | refine gk_ff ?_ | refine ck_t ?_ | refine ck_f ?_) | ((with_reducible first | refine gk_tf ?_ | refine gk_ft ?_ | refine gk_u ?_ | refine gk_u' ?_); first | (intro _ e; (first | rw [put_some] at e | rw [put_none] at e); subst e) | (intro _ _ e e'; (first | rw [put_some] at e | rw [put_none] at e); subst e; subst e'))))
  have rows : ∀ (rest pre : List GN), pre ++ rest = ns → loopN (awp Try.prog ac100_l0) (catch_ 0 (thn K (retM [RV.cell 2 1 true] (V.agg [V.row 0 ns.length false]) 0 [some ⟨false, 122, 4, ns.map GN.tc, none⟩] m))) (rest.length + 1)
     [(12, .pv (ii pre.length)), (11, .pv (ii ns.length)), (3, .ptr 2 0 0), (2, .ptr 0 0 0)] [some ⟨false, 75, 1, [[.pv (.lit (.slice none 0 0))]], none⟩, some ⟨false, 122, 4, ns.map GN.tc, none⟩, some ⟨false, 75, 1, [[.row 1 ns.length false]], none⟩] := by
    intro rest
    induction rest with
    | nil =>
      intro pre hpre
      have hpre : pre = ns := by simpa using hpre
      have hlt : decide ((pre.length : Int) < (ns.length : Int)) = false := by rw [hpre]; exact lt_end _
      refine loopN_k fun K1 hK1 => ?_
      unfold ac100_l0
      (repeat' (first | ((with_reducible first | refine aops_cons' fun C hC => ?_ | refine aopsD_cons' fun C hC => ?_ | intro C hC); simp only [go_sem, hlt, vc_agg]; ((with_reducible first | refine finA hC ?_ | refine finD hC ?_); clear hC C)) | (with_reducible first | refine awp_seq_k fun K hK => ?_ | refine awp_reg_k fun K hK => ?_ | refine awp_dreg_k fun K hK => ?_ | (refine aops_nil ?_; refine hK _ _ ?_; try clear hK K) | (refine aopsD_nil ?_; refine hK _ _ _ ?_ ?_; (focus kernel_rfl); try clear hK K) | (refine thn_normal ?_; refine hK _ _ ?_; try clear hK K) | refine catch_normal ?_ | refine awp_skip_k ?_ | refine awp_ret_k ?_ | refine awp_exit_k ?_ | refine awp_block_k ?_ | (refine thn_exit ?_; try clear hK K) | (refine thn_ret ?_; try clear hK K) | refine catch_ret ?_ | refine catch_exit ?_ | (refine catch_other ?_ ?_; focus decide)) | ((with_reducible first | apply aops_guard' | apply aopsD_guard' | apply awp_cond_g); focus (simp only [go_sem, hlt, vc_agg]; exact rfl)) | (with_reducible first | refine gk_tt ?_ | refine gk_ff ?_ | refine ck_t ?_ | refine ck_f ?_) | ((with_reducible first | refine gk_tf ?_ | refine gk_ft ?_ | refine gk_u ?_ | refine gk_u' ?_); first | (intro _ e; (first | rw [put_some] at e | rw [put_none] at e); subst e) | (intro _ _ e e'; (first | rw [put_some] at e | rw [put_none] at e); subst e; subst e'))))
      refine ⟨[.agg [.row 1 ns.length false]], rfl, fun b => [1].getD b 0, ?_⟩
      simp only [tagN, Option.map_some, Nat.lt_irrefl, if_false, gB]
      exact (LeB [1] (by refine ⟨?_, ?_, ?_⟩ <;> simp only [leFr, leFb, leHp, V.ren, V.renL, V.bd, V.bdL, allL, lt, Go.Ab.get, hget, List.map_cons, List.map_nil, List.length_cons, List.length_nil, List.length_append, List.getElem?_cons_zero, List.getElem?_cons_succ, List.getElem?_nil, Option.join_some, Option.join_none, List.getD_cons_zero, List.getD_cons_succ, List.getD_nil, Nat.reduceAdd, Nat.reduceLT, Nat.reduceEqDiff, Nat.zero_add, reduceIte, if_true, if_false, and_true, true_and, renL_vcells, allL_vcells, renL_pv, leBlk_some, eq_self, true_or, or_true, reduceCtorEq, false_or, allL, oneW, allL_G, renL_G]))
    | cons n rest ih =>
      intro pre hpre
      have hlt : decide ((pre.length : Int) < (ns.length : Int)) = true := by rw [← hpre]; exact lt_app _ _ _
      have hat : (ns.map GN.tc)[pre.length]? = some [.pv (ii n.kd), .pv (ii n.w), .pv (ss n.tx), .pv (.list 1 (encI n.ch))] := by rw [← hpre]; simp [GN.tc]
      have hln : pre.length < ns.length := by rw [← hpre]; simp
      have hset : (ns.map GN.tc).set pre.length [.pv (ii n.kd), .pv (ii n.w), .pv (ss n.tx), .pv (.list 1 (encI n.ch))] = ns.map GN.tc := by
        rw [← hpre]; simp [GN.tc]
      have hb : pre.length + 1 ≤ big := by unfold big; omega
      have hw := wrapS (n := pre.length) (by unfold big at hb; omega)
      have hci := cloneI_ok n.ch
      refine loopN_k fun K1 hK1 => ?_
      unfold ac100_l0
      (repeat' (first | ((first | (with_reducible refine aops_call fun C hC => ?_) | (with_reducible refine aopsD_call fun C hC => ?_) | ((with_reducible intro C hC); (with_reducible refine ax_call_mp ?_))); (first | (simp only [go_sem, hlt, hat, hset, hln, List.length_map, vc_agg]; (first | ((with_reducible apply ACall.pure0 [] (hci)); (focus ((first | exact vwA | exact vwR))))))); (simp only [PV.scal, PV.scalL, if_true, Bool.and_true, Bool.and_false, Bool.false_and, Bool.true_and, frz, List.map_nil, Bool.false_eq_true, if_false, ite_self, hlt, hat, hset, hln, List.length_map, vc_agg]); ((with_reducible first | refine finA hC ?_ | refine finD hC ?_); clear hC C)) | ((with_reducible first | refine aops_cons' fun C hC => ?_ | refine aopsD_cons' fun C hC => ?_ | intro C hC); simp only [go_sem, hlt, hat, hset, hln, List.length_map, vc_agg]; ((with_reducible first | refine finA hC ?_ | refine finD hC ?_); clear hC C)) | (with_reducible first | refine awp_seq_k fun K hK => ?_ | refine awp_reg_k fun K hK => ?_ | refine awp_dreg_k fun K hK => ?_ | (refine aops_nil ?_; refine hK _ _ ?_; try clear hK K) | (refine aopsD_nil ?_; refine hK _ _ _ ?_ ?_; (focus kernel_rfl); try clear hK K) | (refine thn_normal ?_; refine hK _ _ ?_; try clear hK K) | refine catch_normal ?_ | refine awp_skip_k ?_ | refine awp_ret_k ?_ | refine awp_exit_k ?_ | refine awp_block_k ?_ | (refine thn_exit ?_; try clear hK K) | (refine thn_ret ?_; try clear hK K) | refine catch_ret ?_ | refine catch_exit ?_ | (refine catch_other ?_ ?_; focus decide)) | ((with_reducible first | apply aops_guard' | apply aopsD_guard' | apply awp_cond_g); focus (simp only [go_sem, hlt, hat, hset, hln, List.length_map, vc_agg]; exact rfl)) | (with_reducible first | refine gk_tt ?_ | refine gk_ff ?_ | refine ck_t ?_ | refine ck_f ?_) | ((with_reducible first | refine gk_tf ?_ | refine gk_ft ?_ | refine gk_u ?_ | refine gk_u' ?_); first | (intro _ e; (first | rw [put_some] at e | rw [put_none] at e); subst e) | (intro _ _ e e'; (first | rw [put_some] at e | rw [put_none] at e); subst e; subst e'))))
      refine thn_normal ?_
      refine hK1 _ _ _ _ _ (LeB [0, 1, 2] (by refine ⟨?_, ?_, ?_⟩ <;> simp only [leFr, leFb, leHp, V.ren, V.renL, V.bd, V.bdL, allL, lt, Go.Ab.get, hget, List.map_cons, List.map_nil, List.length_cons, List.length_nil, List.length_append, List.getElem?_cons_zero, List.getElem?_cons_succ, List.getElem?_nil, Option.join_some, Option.join_none, List.getD_cons_zero, List.getD_cons_succ, List.getD_nil, Nat.reduceAdd, Nat.reduceLT, Nat.reduceEqDiff, Nat.zero_add, reduceIte, if_true, if_false, and_true, true_and, renL_vcells, allL_vcells, renL_pv, leBlk_some, eq_self, true_or, or_true, reduceCtorEq, false_or, hw, List.length_append, renL_G, allL_G, allL])) (ih (pre ++ [n]) (by simp [hpre]))
  refine awp_loop_k _ (LeB [1, 2, 3] (by refine ⟨?_, ?_, ?_⟩ <;> simp only [leFr, leFb, leHp, V.ren, V.renL, V.bd, V.bdL, allL, lt, Go.Ab.get, hget, List.map_cons, List.map_nil, List.length_cons, List.length_nil, List.length_append, List.getElem?_cons_zero, List.getElem?_cons_succ, List.getElem?_nil, Option.join_some, Option.join_none, List.getD_cons_zero, List.getD_cons_succ, List.getD_nil, Nat.reduceAdd, Nat.reduceLT, Nat.reduceEqDiff, Nat.zero_add, reduceIte, if_true, if_false, and_true, true_and, renL_vcells, allL_vcells, renL_pv, leBlk_some, eq_self, true_or, or_true, reduceCtorEq, false_or, c0, allL, List.length_nil, renL_G, allL_G])) (rows ns [] rfl)
theorem clone1E_ok (ad : Addr) (c : Nat) : MCall Try.prog 100 [.pv (.agg [.lit (.slice (some ad) 0 c)])] [] (.agg [.row 0 0 false]) [some (gB [])] := by
  have hc := cloneGE_ok ad c
  refine MCall.intro fn100 (by simp) (by simp) (by simp) (by simp) HpOk_nil (HpOk_G _) ⟨trivial, trivial⟩ ⟨⟨_, rfl⟩, trivial⟩ fun m => ?_
  unfold ac100
  simp only [argFrV, tagN, List.length_nil]
  (repeat' (first | ((with_reducible first | refine aops_cons' fun C hC => ?_ | refine aopsD_cons' fun C hC => ?_ | intro C hC); simp only [go_sem, vc_agg]; ((with_reducible first | refine finA hC ?_ | refine finD hC ?_); clear hC C)) | (with_reducible first | refine awp_seq_k fun K hK => ?_ | refine awp_reg_k fun K hK => ?_ | refine awp_dreg_k fun K hK => ?_ | (refine aops_nil ?_; refine hK _ _ ?_; try clear hK K) | (refine aopsD_nil ?_; refine hK _ _ _ ?_ ?_; (focus kernel_rfl); try clear hK K) | (refine thn_normal ?_; refine hK _ _ ?_; try clear hK K) | refine catch_normal ?_ | refine awp_skip_k ?_ | refine awp_ret_k ?_ | refine awp_exit_k ?_ | refine awp_block_k ?_ | (refine thn_exit ?_; try clear hK K) | (refine thn_ret ?_; try clear hK K) | refine catch_ret ?_ | refine catch_exit ?_ | (refine catch_other ?_ ?_; focus decide)) | ((with_reducible first | apply aops_guard' | apply aopsD_guard' | apply awp_cond_g); focus (simp only [go_sem, vc_agg]; exact rfl)) | (with_reducible first | refine gk_tt ?_ | refine gk_ff ?_ | refine ck_t ?_ | refine ck_f ?_) | ((with_reducible first | refine gk_tf ?_ | refine gk_ft ?_ | refine gk_u ?_ | refine gk_u' ?_); first | (intro _ e; (first | rw [put_some] at e | rw [put_none] at e); subst e) | (intro _ _ e e'; (first | rw [put_some] at e | rw [put_none] at e); subst e; subst e'))))
  refine aops_call fun C hC => ?_
  simp only [go_sem]
  refine ACall.heap [] hc rfl (by decide) (by decide) (VM.eq (.pv (.lit (.slice (some ad) 0 c))) _ _ .nil) hh0 ?_
  simp only [V.ren, V.renL, outD, rhoN, Option.map_some, gB, List.map_nil]
  (with_reducible refine finA hC ?_); clear hC C
  (repeat' (first | ((with_reducible first | refine aops_cons' fun C hC => ?_ | refine aopsD_cons' fun C hC => ?_ | intro C hC); simp only [go_sem, vc_agg]; ((with_reducible first | refine finA hC ?_ | refine finD hC ?_); clear hC C)) | (with_reducible first | refine awp_seq_k fun K hK => ?_ | refine awp_reg_k fun K hK => ?_ | refine awp_dreg_k fun K hK => ?_ | (refine aops_nil ?_; refine hK _ _ ?_; try clear hK K) | (refine aopsD_nil ?_; refine hK _ _ _ ?_ ?_; (focus kernel_rfl); try clear hK K) | (refine thn_normal ?_; refine hK _ _ ?_; try clear hK K) | refine catch_normal ?_ | refine awp_skip_k ?_ | refine awp_ret_k ?_ | refine awp_exit_k ?_ | refine awp_block_k ?_ | (refine thn_exit ?_; try clear hK K) | (refine thn_ret ?_; try clear hK K) | refine catch_ret ?_ | refine catch_exit ?_ | (refine catch_other ?_ ?_; focus decide)) | ((with_reducible first | apply aops_guard' | apply aopsD_guard' | apply awp_cond_g); focus (simp only [go_sem, vc_agg]; exact rfl)) | (with_reducible first | refine gk_tt ?_ | refine gk_ff ?_ | refine ck_t ?_ | refine ck_f ?_) | ((with_reducible first | refine gk_tf ?_ | refine gk_ft ?_ | refine gk_u ?_ | refine gk_u' ?_); first | (intro _ e; (first | rw [put_some] at e | rw [put_none] at e); subst e) | (intro _ _ e e'; (first | rw [put_some] at e | rw [put_none] at e); subst e; subst e'))))
  have z : loopN (awp Try.prog ac100_l0) (catch_ 0 (thn K (retM [RV.cell 2 1 true] (V.agg [V.row 0 0 false]) 0 [some ⟨false, 122, 4, [], none⟩] m))) (0 + 1)
     [(12, .pv (ii 0)), (11, .pv (ii 0)), (3, .ptr 2 0 0), (2, .ptr 0 0 0)] [some ⟨false, 75, 1, [[.pv (.lit (.slice none 0 0))]], none⟩, some ⟨false, 122, 4, [], none⟩, some ⟨false, 75, 1, [[.row 1 0 false]], none⟩] := by
    refine loopN_k fun K1 hK1 => ?_
    unfold ac100_l0
    (repeat' (first | ((with_reducible first | refine aops_cons' fun C hC => ?_ | refine aopsD_cons' fun C hC => ?_ | intro C hC); simp only [go_sem, vc_agg, Int.lt_irrefl, decide_false]; ((with_reducible first | refine finA hC ?_ | refine finD hC ?_); clear hC C)) | (with_reducible first | refine awp_seq_k fun K hK => ?_ | refine awp_reg_k fun K hK => ?_ | refine awp_dreg_k fun K hK => ?_ | (refine aops_nil ?_; refine hK _ _ ?_; try clear hK K) | (refine aopsD_nil ?_; refine hK _ _ _ ?_ ?_; (focus kernel_rfl); try clear hK K) | (refine thn_normal ?_; refine hK _ _ ?_; try clear hK K) | refine catch_normal ?_ | refine awp_skip_k ?_ | refine awp_ret_k ?_ | refine awp_exit_k ?_ | refine awp_block_k ?_ | (refine thn_exit ?_; try clear hK K) | (refine thn_ret ?_; try clear hK K) | refine catch_ret ?_ | refine catch_exit ?_ | (refine catch_other ?_ ?_; focus decide)) | ((with_reducible first | apply aops_guard' | apply aopsD_guard' | apply awp_cond_g); focus (simp only [go_sem, vc_agg, Int.lt_irrefl, decide_false]; exact rfl)) | (with_reducible first | refine gk_tt ?_ | refine gk_ff ?_ | refine ck_t ?_ | refine ck_f ?_) | ((with_reducible first | refine gk_tf ?_ | refine gk_ft ?_ | refine gk_u ?_ | refine gk_u' ?_); first | (intro _ e; (first | rw [put_some] at e | rw [put_none] at e); subst e) | (intro _ _ e e'; (first | rw [put_some] at e | rw [put_none] at e); subst e; subst e'))))
    refine ⟨[.agg [.row 1 0 false]], rfl, fun b => [1].getD b 0, ?_⟩
    simp only [tagN, Option.map_some, Nat.lt_irrefl, if_false, List.map_nil, gB]
    exact (LeB [1] (by refine ⟨?_, ?_, ?_⟩ <;> simp only [leFr, leFb, leHp, V.ren, V.renL, V.bd, V.bdL, allL, lt, Go.Ab.get, hget, List.map_cons, List.map_nil, List.length_cons, List.length_nil, List.length_append, List.getElem?_cons_zero, List.getElem?_cons_succ, List.getElem?_nil, Option.join_some, Option.join_none, List.getD_cons_zero, List.getD_cons_succ, List.getD_nil, Nat.reduceAdd, Nat.reduceLT, Nat.reduceEqDiff, Nat.zero_add, reduceIte, if_true, if_false, and_true, true_and, renL_vcells, allL_vcells, renL_pv, leBlk_some, eq_self, true_or, or_true, reduceCtorEq, false_or, allL, oneW]))
  refine awp_loop_k _ (LeB [1, 2, 3] (by refine ⟨?_, ?_, ?_⟩ <;> simp only [leFr, leFb, leHp, V.ren, V.renL, V.bd, V.bdL, allL, lt, Go.Ab.get, hget, List.map_cons, List.map_nil, List.length_cons, List.length_nil, List.length_append, List.getElem?_cons_zero, List.getElem?_cons_succ, List.getElem?_nil, Option.join_some, Option.join_none, List.getD_cons_zero, List.getD_cons_succ, List.getD_nil, Nat.reduceAdd, Nat.reduceLT, Nat.reduceEqDiff, Nat.zero_add, reduceIte, if_true, if_false, and_true, true_and, renL_vcells, allL_vcells, renL_pv, leBlk_some, eq_self, true_or, or_true, reduceCtorEq, false_or, allL, Int.cast_ofNat_Int])) z
theorem clone1N_ok : PCall Try.prog 100 [.agg [.lit (.slice none 0 0)]] (.agg [.lit (.slice none 0 0)]) := by
  have hc := cloneGN_ok
  refine PCall.intro (ps := [.agg [.lit (.slice none 0 0)]]) fn100 (by simp) ?_
  unfold ac100
  simp only [argFr]
  (repeat' (first | ((first | (with_reducible refine aops_call fun C hC => ?_) | (with_reducible refine aopsD_call fun C hC => ?_) | ((with_reducible intro C hC); (with_reducible refine ax_call_mp ?_))); (first | (simp only [go_sem, vc_agg]; (first | ((with_reducible apply ACall.pure0 [] (hc)); (focus ((first | exact vwA | exact vwR))))))); (simp only [PV.scal, PV.scalL, if_true, Bool.and_true, Bool.and_false, Bool.false_and, Bool.true_and, frz, List.map_nil, Bool.false_eq_true, if_false, ite_self, vc_agg]); ((with_reducible first | refine finA hC ?_ | refine finD hC ?_); clear hC C)) | ((with_reducible first | refine aops_cons' fun C hC => ?_ | refine aopsD_cons' fun C hC => ?_ | intro C hC); simp only [go_sem, vc_agg]; ((with_reducible first | refine finA hC ?_ | refine finD hC ?_); clear hC C)) | (with_reducible first | refine awp_seq_k fun K hK => ?_ | refine awp_reg_k fun K hK => ?_ | refine awp_dreg_k fun K hK => ?_ | (refine aops_nil ?_; refine hK _ _ ?_; try clear hK K) | (refine aopsD_nil ?_; refine hK _ _ _ ?_ ?_; (focus kernel_rfl); try clear hK K) | (refine thn_normal ?_; refine hK _ _ ?_; try clear hK K) | refine catch_normal ?_ | refine awp_skip_k ?_ | refine awp_ret_k ?_ | refine awp_exit_k ?_ | refine awp_block_k ?_ | (refine thn_exit ?_; try clear hK K) | (refine thn_ret ?_; try clear hK K) | refine catch_ret ?_ | refine catch_exit ?_ | (refine catch_other ?_ ?_; focus decide)) | ((with_reducible first | apply aops_guard' | apply aopsD_guard' | apply awp_cond_g); focus (simp only [go_sem, vc_agg]; exact rfl)) | (with_reducible first | refine gk_tt ?_ | refine gk_ff ?_ | refine ck_t ?_ | refine ck_f ?_) | ((with_reducible first | refine gk_tf ?_ | refine gk_ft ?_ | refine gk_u ?_ | refine gk_u' ?_); first | (intro _ e; (first | rw [put_some] at e | rw [put_none] at e); subst e) | (intro _ _ e e'; (first | rw [put_some] at e | rw [put_none] at e); subst e; subst e'))))
  have z : loopN (awp Try.prog ac100_l0) (catch_ 0 (thn K (retP [RV.cell 2 1 true] [.agg [.lit (.slice none 0 0)]]))) (0 + 1)
     [(12, .pv (ii 0)), (11, .pv (ii 0)), (3, .ptr 1 0 0), (2, .ptr 0 0 0)] [some ⟨false, 75, 1, [[.pv (.lit (.slice none 0 0))]], none⟩, some ⟨false, 75, 1, [[.pv (.lit (.slice none 0 0))]], none⟩] := by
    refine loopN_k fun K1 hK1 => ?_
    unfold ac100_l0
    (repeat' (first | ((with_reducible first | refine aops_cons' fun C hC => ?_ | refine aopsD_cons' fun C hC => ?_ | intro C hC); simp only [go_sem, vc_agg, Int.lt_irrefl, decide_false]; ((with_reducible first | refine finA hC ?_ | refine finD hC ?_); clear hC C)) | (with_reducible first | refine awp_seq_k fun K hK => ?_ | refine awp_reg_k fun K hK => ?_ | refine awp_dreg_k fun K hK => ?_ | (refine aops_nil ?_; refine hK _ _ ?_; try clear hK K) | (refine aopsD_nil ?_; refine hK _ _ _ ?_ ?_; (focus kernel_rfl); try clear hK K) | (refine thn_normal ?_; refine hK _ _ ?_; try clear hK K) | refine catch_normal ?_ | refine awp_skip_k ?_ | refine awp_ret_k ?_ | refine awp_exit_k ?_ | refine awp_block_k ?_ | (refine thn_exit ?_; try clear hK K) | (refine thn_ret ?_; try clear hK K) | refine catch_ret ?_ | refine catch_exit ?_ | (refine catch_other ?_ ?_; focus decide)) | ((with_reducible first | apply aops_guard' | apply aopsD_guard' | apply awp_cond_g); focus (simp only [go_sem, vc_agg, Int.lt_irrefl, decide_false]; exact rfl)) | (with_reducible first | refine gk_tt ?_ | refine gk_ff ?_ | refine ck_t ?_ | refine ck_f ?_) | ((with_reducible first | refine gk_tf ?_ | refine gk_ft ?_ | refine gk_u ?_ | refine gk_u' ?_); first | (intro _ e; (first | rw [put_some] at e | rw [put_none] at e); subst e) | (intro _ _ e e'; (first | rw [put_some] at e | rw [put_none] at e); subst e; subst e'))))
    (refine retP_ret (List.range 40) rfl ?_; (first | exact vwA | exact vwR))
  refine awp_loop_k _ (LeB [1, 2] (by refine ⟨?_, ?_, ?_⟩ <;> simp only [leFr, leFb, leHp, V.ren, V.renL, V.bd, V.bdL, allL, lt, Go.Ab.get, hget, List.map_cons, List.map_nil, List.length_cons, List.length_nil, List.length_append, List.getElem?_cons_zero, List.getElem?_cons_succ, List.getElem?_nil, Option.join_some, Option.join_none, List.getD_cons_zero, List.getD_cons_succ, List.getD_nil, Nat.reduceAdd, Nat.reduceLT, Nat.reduceEqDiff, Nat.zero_add, reduceIte, if_true, if_false, and_true, true_and, renL_vcells, allL_vcells, renL_pv, leBlk_some, eq_self, true_or, or_true, reduceCtorEq, false_or, allL])) z
-- more
end Go.Proofs.Ytgphapkpoamcgaa
