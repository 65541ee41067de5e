/- Q20: joined from Q20. -/
import Derived.Test.YtbdoblgofddhdaaFnR
import Derived.Test.YtbdoblgofddhdaaQ4
/- Exhaustiveness: rows cloned, turned round. -/
set_option maxRecDepth 10000
set_option linter.unusedSimpArgs false
set_option linter.unusedVariables false
namespace Go.Proofs.Ytbdoblgofddhdaa
open Go Go.Ab
def cR (r : List Ty) : List V := [.pv (.list 3 (encL r))]
def bR (rs : List (List Ty)) : Blk := ⟨false, 64, 1, rs.map cR, none⟩
theorem vcellsR (xs : List (List Ty)) : (encLLP xs).map PV.vcells = xs.map cR := by
  unfold encLLP; rw [List.map_map]
  exact List.map_congr_left fun t _ => rfl
theorem cellsR (xs : List (List Ty)) : (∀ x ∈ encLLP xs, x.cells.length = 1) = True := by
  refine eq_true fun x hx => ?_
  unfold encLLP at hx
  obtain ⟨t, _, rfl⟩ := List.mem_map.1 hx
  rfl
theorem renL_R {ρ : Nat → Nat} (xs : List (List Ty)) : (xs.map cR).map (V.renL ρ) = xs.map cR := by
  rw [List.map_map]; exact List.map_congr_left fun p _ => rfl
theorem bd_R {S : Nat → Prop} {xs : List (List Ty)} : ∀ cs ∈ xs.map cR, V.bdL S cs := by
  intro cs hcs
  obtain ⟨p, _, rfl⟩ := List.mem_map.1 hcs
  simp [cR, V.bdL, V.bd]
theorem allL_R {S : Nat → Prop} (xs : List (List Ty)) : allL S (xs.map cR) = True := by
  simp only [allL_iff, eq_iff_iff, iff_true]; exact bd_R
theorem VwE_R {h : HF} {B : List Nat} : ∀ (xs : List (List Ty)), VwE h B 1 (xs.map cR) (encLLP xs)
  | [] => .nil 1
  | x :: xs => .cons 1 _ _ _ _ rfl (.cons _ _ _ _ (.pv _) .nil) (VwE_R xs)
theorem row_R {h : HF} {B : List Nat} {b n : Nat} {fl ro : Bool} {ty : Nat} {xs : List (List Ty)} {tg : Option (Nat × Nat × Nat)} (hb : b ∈ B) (hk : h b = some ⟨ro, ty, 1, xs.map cR, tg⟩) (hn : n = xs.length) : Vw h B (.row b n fl) (.list 1 (encLLP xs)) :=
  row_view hb hk (by simp [hn]) (VwE_R xs)
theorem set_R {Bs : List (List Ty)} {i : Nat} {x : List Ty} : (Bs.map cR).set i [.pv (.list 3 (encL x))] = (Bs.set i x).map cR := by rw [List.map_set]; rfl
theorem get_R {Bs : List (List Ty)} {i : Nat} (h : i < Bs.length) : (Bs.map cR)[i]? = some (cR (Bs.getD i [])) := by
  rw [List.getElem?_map, List.getElem?_eq_getElem h, List.getD_eq_getElem?_getD, List.getElem?_eq_getElem h]; rfl
theorem HpOk_R (rs : List (List Ty)) : HpOk [some (bR rs)] := by
  refine ⟨fun b k e => ?_, fun b k e => ?_⟩ <;> (cases b with
    | zero => simp only [hget, List.getElem?_cons_zero, Option.join_some, Option.some.injEq] at e; subst e; first | rfl | exact bd_R
    | succ b => simp [hget] at e)
theorem LV_R (rs : List (List Ty)) : ∀ b, b < 1 → LV [some (bR rs)] b := fun b hb => by
  obtain rfl : b = 0 := by omega
  exact ⟨_, rfl⟩
/-- a list of rows as an argument: not nil -/
def ArgR (av : PV) (rows : List (List Ty)) : Prop := (av = .list 1 (encLLP rows) ∧ rows ≠ []) ∨ ∃ ad c, av = .lit (.slice (some ad) 0 c) ∧ rows = []
theorem ArgR.weak {av : PV} {rows : List (List Ty)} (h : ArgR av rows) (I : Imm) (u : Value) (r : RP I av u) : RP I (.list 1 (encLLP rows)) u := by
  rcases h with ⟨rfl, _⟩ | ⟨ad, c, rfl, rfl⟩
  · exact r
  · exact RP_some r
theorem ArgR.vw {av : PV} {rows : List (List Ty)} (h : ArgR av rows) {hp : HF} {B : List Nat} : Vw hp B (.pv av) (.list 1 (encLLP rows)) := .weak _ _ h.weak
theorem nilR {rows : List (List Ty)} (h : rows ≠ []) : nilEq .slice (.pv (.list 1 (encLLP rows))) (.pv (.lit (.slice none 0 0))) = some false := by
  cases rows with
  | nil => exact absurd rfl h
  | cons => rfl
theorem cloneR {av : PV} {rows : List (List Ty)} (h : ArgR av rows) (hl : rows.length ≤ 1099511627776) : MCall Try.prog 53 [.pv av] [] (.row 0 rows.length false) [some (bR rows)] := by
  have hb : rows.length ≤ big := hl
  have hv := vcellsR rows
  have hc := cellsR rows
  refine MCall.intro fn53 (by simp) (by simp) (by simp) (by simp) HpOk_nil (HpOk_R rows) ⟨trivial, trivial⟩ ⟨_, rfl⟩ fun m => ?_
  unfold ac53
  rcases h with ⟨rfl, h0⟩ | ⟨ad, c, rfl, rfl⟩
  · obtain ⟨x, xs, rfl⟩ : ∃ x xs, rows = x :: xs := by
      cases rows with
      | nil => exact absurd rfl h0
      | cons x xs => exact ⟨x, xs, rfl⟩
    have hq : encLLP (x :: xs) = .list 3 (encL x) :: encLLP xs := rfl
    have hv := vcellsR xs
    have hc : (∀ y ∈ (PV.list 3 (encL x) :: encLLP xs), y.cells.length = 1) = True := hc
    have hb : xs.length + 1 ≤ big := hb
    simp only [argFrV, tagN, List.length_nil]
    (repeat' (first | ((with_reducible first | refine aops_cons' fun C hC => ?_ | refine aopsD_cons' fun C hC => ?_ | intro C hC); simp only [go_sem, hq, hv, hc, encLLP_len, List.length_map, hb]; ((with_reducible first | refine finA hC ?_ | refine finD hC ?_); clear hC C)) | (with_reducible first | refine awp_seq_k fun K hK => ?_ | refine awp_reg_k fun K hK => ?_ | refine awp_dreg_k fun K hK => ?_ | (refine aops_nil ?_; refine hK _ _ ?_; try clear hK K) | (refine aopsD_nil ?_; refine hK _ _ _ ?_ ?_; (focus kernel_rfl); try clear hK K) | (refine thn_normal ?_; refine hK _ _ ?_; try clear hK K) | refine catch_normal ?_ | refine awp_skip_k ?_ | refine awp_ret_k ?_ | refine awp_exit_k ?_ | refine awp_block_k ?_ | (refine thn_exit ?_; try clear hK K) | (refine thn_ret ?_; try clear hK K) | refine catch_ret ?_ | refine catch_exit ?_ | (refine catch_other ?_ ?_; focus decide)) | ((with_reducible first | apply aops_guard' | apply aopsD_guard' | apply awp_cond_g); focus (simp only [go_sem, hq, hv, hc, encLLP_len, List.length_map, hb]; exact rfl)) | (with_reducible first | refine gk_tt ?_ | refine gk_ff ?_ | refine ck_t ?_ | refine ck_f ?_) | ((with_reducible first | refine gk_tf ?_ | refine gk_ft ?_ | refine gk_u ?_ | refine gk_u' ?_); first | (intro _ e; (first | rw [put_some] at e | rw [put_none] at e); subst e) | (intro _ _ e e'; (first | rw [put_some] at e | rw [put_none] at e); subst e; subst e'))))
    refine ⟨_, rfl, fun b => [1].getD b 0, ?_⟩
    simp only [tagN, Option.map_some, Nat.lt_irrefl, if_false, bR]
    exact (LeB [1] (by refine ⟨?_, ?_, ?_⟩ <;> simp only [leFr, leFb, leHp, V.ren, V.renL, V.bd, V.bdL, allL, lt, Go.Ab.get, hget, List.map_cons, List.map_nil, List.length_cons, List.length_nil, List.length_append, List.getElem?_cons_zero, List.getElem?_cons_succ, List.getElem?_nil, Option.join_some, Option.join_none, List.getD_cons_zero, List.getD_cons_succ, List.getD_nil, Nat.reduceAdd, Nat.reduceLT, Nat.reduceEqDiff, Nat.zero_add, reduceIte, if_true, if_false, and_true, true_and, renL_vcells, allL_vcells, renL_pv, leBlk_some, eq_self, true_or, or_true, reduceCtorEq, false_or, allL, oneW, allL_R, renL_R, cR]))
  · simp only [argFrV, tagN, List.length_nil]
    (repeat' (first | ((with_reducible first | refine aops_cons' fun C hC => ?_ | refine aopsD_cons' fun C hC => ?_ | intro C hC); simp only [go_sem, Nat.zero_le]; ((with_reducible first | refine finA hC ?_ | refine finD hC ?_); clear hC C)) | (with_reducible first | refine awp_seq_k fun K hK => ?_ | refine awp_reg_k fun K hK => ?_ | refine awp_dreg_k fun K hK => ?_ | (refine aops_nil ?_; refine hK _ _ ?_; try clear hK K) | (refine aopsD_nil ?_; refine hK _ _ _ ?_ ?_; (focus kernel_rfl); try clear hK K) | (refine thn_normal ?_; refine hK _ _ ?_; try clear hK K) | refine catch_normal ?_ | refine awp_skip_k ?_ | refine awp_ret_k ?_ | refine awp_exit_k ?_ | refine awp_block_k ?_ | (refine thn_exit ?_; try clear hK K) | (refine thn_ret ?_; try clear hK K) | refine catch_ret ?_ | refine catch_exit ?_ | (refine catch_other ?_ ?_; focus decide)) | ((with_reducible first | apply aops_guard' | apply aopsD_guard' | apply awp_cond_g); focus (simp only [go_sem, Nat.zero_le]; exact rfl)) | (with_reducible first | refine gk_tt ?_ | refine gk_ff ?_ | refine ck_t ?_ | refine ck_f ?_) | ((with_reducible first | refine gk_tf ?_ | refine gk_ft ?_ | refine gk_u ?_ | refine gk_u' ?_); first | (intro _ e; (first | rw [put_some] at e | rw [put_none] at e); subst e) | (intro _ _ e e'; (first | rw [put_some] at e | rw [put_none] at e); subst e; subst e'))))
    refine ⟨_, rfl, fun b => [1].getD b 0, ?_⟩
    simp only [tagN, Option.map_some, Nat.lt_irrefl, if_false, bR, List.map_nil]
    exact (LeB [1] (by refine ⟨?_, ?_, ?_⟩ <;> simp only [leFr, leFb, leHp, V.ren, V.renL, V.bd, V.bdL, allL, lt, Go.Ab.get, hget, List.map_cons, List.map_nil, List.length_cons, List.length_nil, List.length_append, List.getElem?_cons_zero, List.getElem?_cons_succ, List.getElem?_nil, Option.join_some, Option.join_none, List.getD_cons_zero, List.getD_cons_succ, List.getD_nil, Nat.reduceAdd, Nat.reduceLT, Nat.reduceEqDiff, Nat.zero_add, reduceIte, if_true, if_false, and_true, true_and, renL_vcells, allL_vcells, renL_pv, leBlk_some, eq_self, true_or, or_true, reduceCtorEq, false_or, allL, oneW]))
theorem cloneN : PCall Try.prog 53 [.lit (.slice none 0 0)] (.lit (.slice none 0 0)) := by
  refine PCall.intro (ps := [.lit (.slice none 0 0)]) fn53 (by simp) ?_
  unfold ac53
  simp only [argFr]
  (repeat' (first | ((with_reducible first | refine aops_cons' fun C hC => ?_ | refine aopsD_cons' fun C hC => ?_ | intro C hC); simp only [go_sem]; ((with_reducible first | refine finA hC ?_ | refine finD hC ?_); clear hC C)) | (with_reducible first | refine awp_seq_k fun K hK => ?_ | refine awp_reg_k fun K hK => ?_ | refine awp_dreg_k fun K hK => ?_ | (refine aops_nil ?_; refine hK _ _ ?_; try clear hK K) | (refine aopsD_nil ?_; refine hK _ _ _ ?_ ?_; (focus kernel_rfl); try clear hK K) | (refine thn_normal ?_; refine hK _ _ ?_; try clear hK K) | refine catch_normal ?_ | refine awp_skip_k ?_ | refine awp_ret_k ?_ | refine awp_exit_k ?_ | refine awp_block_k ?_ | (refine thn_exit ?_; try clear hK K) | (refine thn_ret ?_; try clear hK K) | refine catch_ret ?_ | refine catch_exit ?_ | (refine catch_other ?_ ?_; focus decide)) | ((with_reducible first | apply aops_guard' | apply aopsD_guard' | apply awp_cond_g); focus (simp only [go_sem]; exact rfl)) | (with_reducible first | refine gk_tt ?_ | refine gk_ff ?_ | refine ck_t ?_ | refine ck_f ?_) | ((with_reducible first | refine gk_tf ?_ | refine gk_ft ?_ | refine gk_u ?_ | refine gk_u' ?_); first | (intro _ e; (first | rw [put_some] at e | rw [put_none] at e); subst e) | (intro _ _ e e'; (first | rw [put_some] at e | rw [put_none] at e); subst e; subst e'))))
  (refine retP_ret (List.range 40) rfl ?_; (first | exact vwA | exact vwR))
theorem revN : PCall Try.prog 55 [.lit (.slice none 0 0)] (.tup []) := by
  refine PCall.intro (ps := []) fn55 (by simp) ?_
  unfold ac55
  simp only [argFr]
  have hw : IntKind.i64.wrap (0 - 1) = -1 := by decide
  (repeat' (first | ((with_reducible first | refine aops_cons' fun C hC => ?_ | refine aopsD_cons' fun C hC => ?_ | intro C hC); simp only [go_sem, hw]; ((with_reducible first | refine finA hC ?_ | refine finD hC ?_); clear hC C)) | (with_reducible first | refine awp_seq_k fun K hK => ?_ | refine awp_reg_k fun K hK => ?_ | refine awp_dreg_k fun K hK => ?_ | (refine aops_nil ?_; refine hK _ _ ?_; try clear hK K) | (refine aopsD_nil ?_; refine hK _ _ _ ?_ ?_; (focus kernel_rfl); try clear hK K) | (refine thn_normal ?_; refine hK _ _ ?_; try clear hK K) | refine catch_normal ?_ | refine awp_skip_k ?_ | refine awp_ret_k ?_ | refine awp_exit_k ?_ | refine awp_block_k ?_ | (refine thn_exit ?_; try clear hK K) | (refine thn_ret ?_; try clear hK K) | refine catch_ret ?_ | refine catch_exit ?_ | (refine catch_other ?_ ?_; focus decide)) | ((with_reducible first | apply aops_guard' | apply aopsD_guard' | apply awp_cond_g); focus (simp only [go_sem, hw]; exact rfl)) | (with_reducible first | refine gk_tt ?_ | refine gk_ff ?_ | refine ck_t ?_ | refine ck_f ?_) | ((with_reducible first | refine gk_tf ?_ | refine gk_ft ?_ | refine gk_u ?_ | refine gk_u' ?_); first | (intro _ e; (first | rw [put_some] at e | rw [put_none] at e); subst e) | (intro _ _ e e'; (first | rw [put_some] at e | rw [put_none] at e); subst e; subst e'))))
  have go : loopN (awp Try.prog ac55_l0) (catch_ 0 (retP [] [])) 1 [(3, .pv (ii (-1))), (2, .pv (ii 0))] [] := by
    refine loopN_k fun K1 hK1 => ?_
    unfold ac55_l0
    (repeat' (first | ((with_reducible first | refine aops_cons' fun C hC => ?_ | refine aopsD_cons' fun C hC => ?_ | intro C hC); simp only [go_sem]; ((with_reducible first | refine finA hC ?_ | refine finD hC ?_); clear hC C)) | (with_reducible first | refine awp_seq_k fun K hK => ?_ | refine awp_reg_k fun K hK => ?_ | refine awp_dreg_k fun K hK => ?_ | (refine aops_nil ?_; refine hK _ _ ?_; try clear hK K) | (refine aopsD_nil ?_; refine hK _ _ _ ?_ ?_; (focus kernel_rfl); try clear hK K) | (refine thn_normal ?_; refine hK _ _ ?_; try clear hK K) | refine catch_normal ?_ | refine awp_skip_k ?_ | refine awp_ret_k ?_ | refine awp_exit_k ?_ | refine awp_block_k ?_ | (refine thn_exit ?_; try clear hK K) | (refine thn_ret ?_; try clear hK K) | refine catch_ret ?_ | refine catch_exit ?_ | (refine catch_other ?_ ?_; focus decide)) | ((with_reducible first | apply aops_guard' | apply aopsD_guard' | apply awp_cond_g); focus (simp only [go_sem]; exact rfl)) | (with_reducible first | refine gk_tt ?_ | refine gk_ff ?_ | refine ck_t ?_ | refine ck_f ?_) | ((with_reducible first | refine gk_tf ?_ | refine gk_ft ?_ | refine gk_u ?_ | refine gk_u' ?_); first | (intro _ e; (first | rw [put_some] at e | rw [put_none] at e); subst e) | (intro _ _ e e'; (first | rw [put_some] at e | rw [put_none] at e); subst e; subst e'))))
    refine retP_normal (List.range 40) rfl ?_
    exact .nil
  refine awp_loop_k _ (LeB [] (by refine ⟨?_, ?_, ?_⟩ <;> simp only [leFr, leFb, leHp, V.ren, V.renL, V.bd, V.bdL, allL, lt, Go.Ab.get, hget, List.map_cons, List.map_nil, List.length_cons, List.length_nil, List.length_append, List.getElem?_cons_zero, List.getElem?_cons_succ, List.getElem?_nil, Option.join_some, Option.join_none, List.getD_cons_zero, List.getD_cons_succ, List.getD_nil, Nat.reduceAdd, Nat.reduceLT, Nat.reduceEqDiff, Nat.zero_add, reduceIte, if_true, if_false, and_true, true_and, renL_vcells, allL_vcells, renL_pv, leBlk_some, eq_self, true_or, or_true, reduceCtorEq, false_or, c0])) go
/-- half way round -/
def Half (rows b : List (List Ty)) (i : Nat) : Prop := b.length = rows.length ∧ ∀ k, k < rows.length → b.getD k [] = if k < i ∨ rows.length - 1 - i < k then rows.getD (rows.length - 1 - k) [] else rows.getD k []
theorem half_end {rows b : List (List Ty)} {i : Nat} (h : Half rows b i) (hi : rows.length ≤ 2 * i + 1) : b = rows.reverse := by
  refine List.ext_getElem (by simp [h.1]) fun k h1 h2 => ?_
  have hk : k < rows.length := by rw [← h.1]; exact h1
  have := h.2 k hk
  rw [List.getD_eq_getElem?_getD, List.getElem?_eq_getElem h1] at this
  rw [List.getElem_reverse]
  simp only [Option.getD_some] at this
  rw [this]
  by_cases hc : k < i ∨ rows.length - 1 - i < k
  · rw [if_pos hc, List.getD_eq_getElem?_getD, List.getElem?_eq_getElem (by omega)]; rfl
  · rw [if_neg hc, List.getD_eq_getElem?_getD, List.getElem?_eq_getElem hk]
    have : rows.length - 1 - k = k := by omega
    simp [this]
theorem getD_set (b : List (List Ty)) (i k : Nat) (x : List Ty) (hi : i < b.length) : (b.set i x).getD k [] = if i = k then x else b.getD k [] := by
  rw [List.getD_eq_getElem?_getD, List.getElem?_set]
  split
  · rename_i e; subst e; simp [hi]
  · rw [List.getD_eq_getElem?_getD]
theorem half_step {rows b : List (List Ty)} {i j : Nat} (h : Half rows b i) (hj : i + j + 1 = rows.length) (hij : i < j) : Half rows ((b.set i (b.getD j [])).set j (b.getD i [])) (i + 1) := by
  refine ⟨by simp [h.1], fun k hk => ?_⟩
  have hb := h.1
  rw [getD_set _ _ _ _ (by simp; omega), getD_set _ _ _ _ (by omega)]
  by_cases h1 : j = k
  · subst h1
    rw [if_pos rfl, if_pos (by omega), h.2 i (by omega), if_neg (by omega)]
    congr 1; omega
  · rw [if_neg h1]
    by_cases h2 : i = k
    · subst h2
      rw [if_pos rfl, if_pos (by omega), h.2 j (by omega), if_neg (by omega)]
      congr 1; omega
    · rw [if_neg h2, h.2 k hk]
      by_cases h3 : k < i ∨ rows.length - 1 - i < k
      · rw [if_pos h3, if_pos (by omega)]
      · rw [if_neg h3, if_neg (by omega)]
set_option maxHeartbeats 4000000 in
theorem revR (rows : List (List Ty)) (hl : rows.length ≤ 1099511627776) : MCall Try.prog 55 [.row 0 rows.length false] [some (bR rows)] (.tup []) [some (bR rows.reverse)] := by
  refine MCall.intro fn55 (by simp) (by simp) (by simp) (LV_R rows) (HpOk_R rows) (HpOk_R _) ⟨⟨_, rfl⟩, trivial⟩ trivial fun m => ?_
  unfold ac55
  simp only [argFrV, tagN, List.length_cons, List.length_nil, Option.map_some, Nat.zero_add, bR]
  have hw : IntKind.i64.wrap ((rows.length : Int) - 1) = (rows.length : Int) - 1 - ((0 : Nat) : Int) := by rw [IntWalk.i64_in _ (by omega)]; omega
  (repeat' (first | ((with_reducible first | refine aops_cons' fun C hC => ?_ | refine aopsD_cons' fun C hC => ?_ | intro C hC); simp only [go_sem, hw]; ((with_reducible first | refine finA hC ?_ | refine finD hC ?_); clear hC C)) | (with_reducible first | refine awp_seq_k fun K hK => ?_ | refine awp_reg_k fun K hK => ?_ | refine awp_dreg_k fun K hK => ?_ | (refine aops_nil ?_; refine hK _ _ ?_; try clear hK K) | (refine aopsD_nil ?_; refine hK _ _ _ ?_ ?_; (focus kernel_rfl); try clear hK K) | (refine thn_normal ?_; refine hK _ _ ?_; try clear hK K) | refine catch_normal ?_ | refine awp_skip_k ?_ | refine awp_ret_k ?_ | refine awp_exit_k ?_ | refine awp_block_k ?_ | (refine thn_exit ?_; try clear hK K) | (refine thn_ret ?_; try clear hK K) | refine catch_ret ?_ | refine catch_exit ?_ | (refine catch_other ?_ ?_; focus decide)) | ((with_reducible first | apply aops_guard' | apply aopsD_guard' | apply awp_cond_g); focus (simp only [go_sem, hw]; exact rfl)) | (with_reducible first | refine gk_tt ?_ | refine gk_ff ?_ | refine ck_t ?_ | refine ck_f ?_) | ((with_reducible first | refine gk_tf ?_ | refine gk_ft ?_ | refine gk_u ?_ | refine gk_u' ?_); first | (intro _ e; (first | rw [put_some] at e | rw [put_none] at e); subst e) | (intro _ _ e e'; (first | rw [put_some] at e | rw [put_none] at e); subst e; subst e'))))
  have go : ∀ (k i : Nat) (b : List (List Ty)), Half rows b i → (rows.length = 2 * (i + k) ∨ rows.length = 2 * (i + k) + 1) → loopN (awp Try.prog ac55_l0) (catch_ 0 (retM [] (.tup []) 1 [some (bR rows.reverse)] m)) (k + 1)
      [(3, .pv (ii ((rows.length : Int) - 1 - (i : Int)))), (2, .pv (ii i)), (0, .row 0 rows.length false)] [some ⟨false, 64, 1, b.map cR, some (m 0)⟩] := by
    intro k
    induction k with
    | zero =>
      intro i b hb hn
      have he := half_end hb (by omega)
      have hlt : decide ((i : Int) < (rows.length : Int) - 1 - (i : Int)) = false := decide_eq_false (by omega)
      refine loopN_k fun K1 hK1 => ?_
      unfold ac55_l0
      (repeat' (first | ((with_reducible first | refine aops_cons' fun C hC => ?_ | refine aopsD_cons' fun C hC => ?_ | intro C hC); simp only [go_sem, hlt]; ((with_reducible first | refine finA hC ?_ | refine finD hC ?_); clear hC C)) | (with_reducible first | refine awp_seq_k fun K hK => ?_ | refine awp_reg_k fun K hK => ?_ | refine awp_dreg_k fun K hK => ?_ | (refine aops_nil ?_; refine hK _ _ ?_; try clear hK K) | (refine aopsD_nil ?_; refine hK _ _ _ ?_ ?_; (focus kernel_rfl); try clear hK K) | (refine thn_normal ?_; refine hK _ _ ?_; try clear hK K) | refine catch_normal ?_ | refine awp_skip_k ?_ | refine awp_ret_k ?_ | refine awp_exit_k ?_ | refine awp_block_k ?_ | (refine thn_exit ?_; try clear hK K) | (refine thn_ret ?_; try clear hK K) | refine catch_ret ?_ | refine catch_exit ?_ | (refine catch_other ?_ ?_; focus decide)) | ((with_reducible first | apply aops_guard' | apply aopsD_guard' | apply awp_cond_g); focus (simp only [go_sem, hlt]; exact rfl)) | (with_reducible first | refine gk_tt ?_ | refine gk_ff ?_ | refine ck_t ?_ | refine ck_f ?_) | ((with_reducible first | refine gk_tf ?_ | refine gk_ft ?_ | refine gk_u ?_ | refine gk_u' ?_); first | (intro _ e; (first | rw [put_some] at e | rw [put_none] at e); subst e) | (intro _ _ e e'; (first | rw [put_some] at e | rw [put_none] at e); subst e; subst e'))))
      refine ⟨_, rfl, fun b => [0].getD b 0, ?_⟩
      subst he
      simp only [tagN, Option.map_some, bR]
      exact (LeB [0] (by refine ⟨?_, ?_, ?_⟩ <;> simp only [leFr, leFb, leHp, V.ren, V.renL, V.bd, V.bdL, allL, lt, Go.Ab.get, hget, List.map_cons, List.map_nil, List.length_cons, List.length_nil, List.length_append, List.getElem?_cons_zero, List.getElem?_cons_succ, List.getElem?_nil, Option.join_some, Option.join_none, List.getD_cons_zero, List.getD_cons_succ, List.getD_nil, Nat.reduceAdd, Nat.reduceLT, Nat.reduceEqDiff, Nat.zero_add, reduceIte, if_true, if_false, and_true, true_and, renL_vcells, allL_vcells, renL_pv, leBlk_some, eq_self, true_or, or_true, reduceCtorEq, false_or, allL, oneW, allL_R, renL_R]))
    | succ k ih =>
      intro i b hb hn
      obtain ⟨j, hj⟩ : ∃ j, i + j + 1 = rows.length := ⟨rows.length - 1 - i, by omega⟩
      have hij : i < j := by omega
      have hJ : (rows.length : Int) - 1 - (i : Int) = (j : Int) := by omega
      have hlt : decide ((i : Int) < (j : Int)) = true := decide_eq_true (by omega)
      have hi' : i < rows.length := by omega
      have hj' : j < rows.length := by omega
      have hbl := hb.1
      have g1 := get_R (Bs := b) (i := i) (by omega)
      have g2 := get_R (Bs := b) (i := j) (by omega)
      have g3 : ((b.map cR).set i [V.pv (.list 3 (encL (b.getD j [])))])[j]? = some (cR (b.getD j [])) := by
        rw [List.getElem?_set_ne (by omega)]; exact g2
      have hw1 := wrapS (n := i) (by omega)
      have hw2 : IntKind.i64.wrap ((j : Int) - 1) = (rows.length : Int) - 1 - ((i + 1 : Nat) : Int) := by rw [IntWalk.i64_in _ (by omega)]; omega
      rw [hJ]
      refine loopN_k fun K1 hK1 => ?_
      unfold ac55_l0
      (repeat' (first | ((with_reducible first | refine aops_cons' fun C hC => ?_ | refine aopsD_cons' fun C hC => ?_ | intro C hC); simp only [go_sem, hlt, g1, g2, g3, hi', hj', cR]; ((with_reducible first | refine finA hC ?_ | refine finD hC ?_); clear hC C)) | (with_reducible first | refine awp_seq_k fun K hK => ?_ | refine awp_reg_k fun K hK => ?_ | refine awp_dreg_k fun K hK => ?_ | (refine aops_nil ?_; refine hK _ _ ?_; try clear hK K) | (refine aopsD_nil ?_; refine hK _ _ _ ?_ ?_; (focus kernel_rfl); try clear hK K) | (refine thn_normal ?_; refine hK _ _ ?_; try clear hK K) | refine catch_normal ?_ | refine awp_skip_k ?_ | refine awp_ret_k ?_ | refine awp_exit_k ?_ | refine awp_block_k ?_ | (refine thn_exit ?_; try clear hK K) | (refine thn_ret ?_; try clear hK K) | refine catch_ret ?_ | refine catch_exit ?_ | (refine catch_other ?_ ?_; focus decide)) | ((with_reducible first | apply aops_guard' | apply aopsD_guard' | apply awp_cond_g); focus (simp only [go_sem, hlt, g1, g2, g3, hi', hj', cR]; exact rfl)) | (with_reducible first | refine gk_tt ?_ | refine gk_ff ?_ | refine ck_t ?_ | refine ck_f ?_) | ((with_reducible first | refine gk_tf ?_ | refine gk_ft ?_ | refine gk_u ?_ | refine gk_u' ?_); first | (intro _ e; (first | rw [put_some] at e | rw [put_none] at e); subst e) | (intro _ _ e e'; (first | rw [put_some] at e | rw [put_none] at e); subst e; subst e'))))
      rw [set_R, set_R]
      refine thn_normal ?_
      refine hK1 _ _ _ _ _ (LeB [0] (by refine ⟨?_, ?_, ?_⟩ <;> simp only [leFr, leFb, leHp, V.ren, V.renL, V.bd, V.bdL, allL, lt, Go.Ab.get, hget, List.map_cons, List.map_nil, List.length_cons, List.length_nil, List.length_append, List.getElem?_cons_zero, List.getElem?_cons_succ, List.getElem?_nil, Option.join_some, Option.join_none, List.getD_cons_zero, List.getD_cons_succ, List.getD_nil, Nat.reduceAdd, Nat.reduceLT, Nat.reduceEqDiff, Nat.zero_add, reduceIte, if_true, if_false, and_true, true_and, renL_vcells, allL_vcells, renL_pv, leBlk_some, eq_self, true_or, or_true, reduceCtorEq, false_or, hw1, hw2, List.length_append, allL_R, renL_R])) (ih (i + 1) _ (half_step hb hj hij) (by omega))
  refine awp_loop_k _ (LeB [0] (by refine ⟨?_, ?_, ?_⟩ <;> simp only [leFr, leFb, leHp, V.ren, V.renL, V.bd, V.bdL, allL, lt, Go.Ab.get, hget, List.map_cons, List.map_nil, List.length_cons, List.length_nil, List.length_append, List.getElem?_cons_zero, List.getElem?_cons_succ, List.getElem?_nil, Option.join_some, Option.join_none, List.getD_cons_zero, List.getD_cons_succ, List.getD_nil, Nat.reduceAdd, Nat.reduceLT, Nat.reduceEqDiff, Nat.zero_add, reduceIte, if_true, if_false, and_true, true_and, renL_vcells, allL_vcells, renL_pv, leBlk_some, eq_self, true_or, or_true, reduceCtorEq, false_or, c0, allL_R, renL_R])) (go (rows.length / 2) 0 rows ⟨rfl, fun k hk => by rw [if_neg (by omega)]⟩ (by omega))
theorem vwR {p : Prop} (h : p := by (repeat (first | exact Vw_enc _ | exact .nil | exact .nil _ | exact .pv _ | exact Vw_nil | exact Vw_some | exact VwL_pv _ | (refine .cons _ _ _ _ ?_ ?_) | (refine row_R ?_ rfl (by simp); (focus (decide))) | (refine row_view ?_ rfl rfl ?_; (focus (decide))) | exact VwE_R _ | (refine VwE.cons _ _ _ _ _ rfl ?_ ?_))); first | done | fail) : p := h
theorem hhR {h : HF} {a nb : Nat} {rows : List (List Ty)} {tg : Option (Nat × Nat × Nat)} (h0 : h a = some ⟨false, 64, 1, rows.map cR, tg⟩) : ∀ i k, hget [some (bR rows)] i = some k → ∃ k', h (rho [a] nb i) = some k' ∧ BlkWk (rho [a] nb) k' k := fun i k e => by
  cases i with
  | zero =>
    simp only [hget, List.getElem?_cons_zero, Option.join_some, Option.some.injEq] at e
    subst e
    exact ⟨_, h0, rfl, rfl, rfl, by simp only [bR, renL_R]; exact WkX.refl _⟩
  | succ i => simp [hget] at e
theorem PCall.weak3 {P : Program} {f : FuncId} {x y a b r : PV} (h : ∀ I u, RP I b u → RP I a u) (hc : PCall P f [x, y, a] r) : PCall P f [x, y, b] r := by
  refine ⟨hc.1, fun I w us hI hus => hc.2 I w us hI ?_⟩
  simp only [RPL] at hus ⊢
  obtain ⟨u1, l1, e1, q1, u2, l2, e2, q2, u3, l3, e3, q3, q4⟩ := hus
  exact ⟨u1, l1, e1, q1, u2, l2, e2, q2, u3, l3, e3, h I u3 q3, q4⟩
end Go.Proofs.Ytbdoblgofddhdaa
