/- A6: joined from O4. -/
import Derived.Test.YtgphapkpoamcgaaDoorFnP
import Derived.Test.YtgphapkpoamcgaaDoorA5
/- toPosition. -/
set_option maxRecDepth 10000
set_option linter.unusedSimpArgs false
set_option linter.unusedVariables false
namespace Go.Proofs.YtgphapkpoamcgaaDoor
open Go Go.Ab
theorem lastTo_take (l : List UInt8) (o : Nat) : ∀ n, n ≤ o → lastTo (l.take o) n = lastTo l n
  | 0, _ => rfl
  | n + 1, h => by
    simp only [lastTo]
    have : (l.take o).getD n 0 = l.getD n 0 := by
      simp only [List.getD_eq_getElem?_getD]; rw [List.getElem?_take, if_pos (by omega)]
    rw [this, lastTo_take l o n (by omega)]
abbrev p2 (a b : Nat) : PV := .agg [ii a, ii b]
theorem wd_le (u : Bool) (r : Nat) : wd u r ≤ 2 := by
  unfold wd un; split
  · split <;> omega
  · omega
set_option maxHeartbeats 4000000 in
theorem tp_rows {K : Fr → Hp → Prop} {Q : Post} (u : Bool) (l : List UInt8) (o j : Nat) (hl : l.length ≤ 1048576) (ho : o ≤ l.length) (R : Nat × Nat)
    (hN : ∀ fr, Ab.get fr 9 = .pv (ii (R.1 : Nat)) → Ab.get fr 8 = .ptr 1 0 0 → Ab.get fr 6 = .ptr 0 0 0 → Ab.get fr 1 = .pv (ii o) → K fr [some ⟨false, 23, 2, [[.pv (ii 0), .pv (ii 0)]], none⟩, some ⟨false, 23, 2, [[.pv (ii j), .pv (ii (R.2 : Nat))]], none⟩]) :
    ∀ (n i c : Nat), o ≤ i + n → i ≤ l.length → c ≤ 2 * i → walkP u l o n i c = R →
    loopN (awp Tryd.prog ac15_l0) (catch_ 0 (thn K Q)) (n + 1) [(9, .pv (ii i)), (8, .ptr 1 0 0), (6, .ptr 0 0 0), (2, .pv (.fn (wFn u) [])), (1, .pv (ii o)), (0, .pv (sb l))] [some ⟨false, 23, 2, [[.pv (ii 0), .pv (ii 0)]], none⟩, some ⟨false, 23, 2, [[.pv (ii j), .pv (ii c)]], none⟩] := by
  have fin : ∀ (n i c : Nat), ¬ i < o → walkP u l o n i c = R →
      loopN (awp Tryd.prog ac15_l0) (catch_ 0 (thn K Q)) (n + 1) [(9, .pv (ii i)), (8, .ptr 1 0 0), (6, .ptr 0 0 0), (2, .pv (.fn (wFn u) [])), (1, .pv (ii o)), (0, .pv (sb l))] [some ⟨false, 23, 2, [[.pv (ii 0), .pv (ii 0)]], none⟩, some ⟨false, 23, 2, [[.pv (ii j), .pv (ii c)]], none⟩] := by
    intro n i c h1 he
    rw [walkP_ge u l o n i c (by omega)] at he
    subst he
    have hlt : decide ((i : Int) < (o : Int)) = false := decide_eq_false (by omega)
    refine loopN_k fun K1 hK1 => ?_
    unfold ac15_l0
    (repeat' (first | ((with_reducible first | refine aops_cons' fun C hC => ?_ | refine aopsD_cons' fun C hC => ?_ | intro C hC); simp only [go_sem, hlt]; ((with_reducible first | refine finA hC ?_ | refine finD hC ?_); clear hC C)) | (with_reducible first | refine awp_seq_k fun K hK => ?_ | refine awp_reg_k fun K hK => ?_ | refine awp_dreg_k fun K hK => ?_ | (refine aops_nil ?_; refine hK _ _ ?_; try clear hK K) | (refine aopsD_nil ?_; refine hK _ _ _ ?_ ?_; (focus kernel_rfl); try clear hK K) | (refine thn_normal ?_; refine hK _ _ ?_; try clear hK K) | refine catch_normal ?_ | refine awp_skip_k ?_ | refine awp_ret_k ?_ | refine awp_exit_k ?_ | refine awp_block_k ?_ | (refine thn_exit ?_; try clear hK K) | (refine thn_ret ?_; try clear hK K) | refine catch_ret ?_ | refine catch_exit ?_ | (refine catch_other ?_ ?_; focus decide)) | ((with_reducible first | apply aops_guard' | apply aopsD_guard' | apply awp_cond_g); focus (simp only [go_sem, hlt]; exact rfl)) | (with_reducible first | refine gk_tt ?_ | refine gk_ff ?_ | refine ck_t ?_ | refine ck_f ?_) | ((with_reducible first | refine gk_tf ?_ | refine gk_ft ?_ | refine gk_u ?_ | refine gk_u' ?_); first | (intro _ e; (first | rw [put_some] at e | rw [put_none] at e); subst e) | (intro _ _ e e'; (first | rw [put_some] at e | rw [put_none] at e); subst e; subst e'))))
    exact hN _ rfl rfl rfl rfl
  intro n
  induction n with
  | zero => intro i c h1 h2 h3 he; exact fin 0 i c (by omega) he
  | succ n ih =>
    intro i c h1 h2 h3 he
    by_cases hp : i < o
    · have hne : l.drop i ≠ [] := fun h => by have := List.drop_eq_nil_iff.1 h; omega
      have hd1 := dec_pos hne
      have hd2 := dec_le (l.drop i)
      rw [List.length_drop] at hd2
      have hd := dec_ok (l.drop i)
      have hwf := w_ok u (dec (l.drop i)).1
      have hwl := wd_le u (dec (l.drop i)).1
      simp only [walkP] at he
      rw [if_pos hp] at he
      have hlt : decide ((i : Int) < (o : Int)) = true := decide_eq_true (by omega)
      have ihn := ih _ _ (by omega) (by omega) (by omega) he
      clear ih fin hN he
      generalize hr : (dec (l.drop i)).1 = r at *
      generalize (dec (l.drop i)).2 = w at *
      generalize wd u r = v at *
      have hw1 : IntKind.i64.wrap ((i : Int) + (w : Int)) = ((i + w : Nat) : Int) := by rw [wrapR (by omega) (by omega)]; omega
      have hw2 : IntKind.i64.wrap ((c : Int) + (v : Int)) = ((c + v : Nat) : Int) := by rw [wrapR (by omega) (by omega)]; omega
      refine loopN_k fun K1 hK1 => ?_
      unfold ac15_l0
      (repeat' (first | ((first | (with_reducible refine aops_call fun C hC => ?_) | (with_reducible refine aopsD_call fun C hC => ?_) | ((with_reducible intro C hC); (with_reducible refine ax_call_mp ?_))); (first | (simp only [go_sem, hlt, sb_size, sb_drop, h2, Nat.le_refl, hw1, hw2, spl]; (first | ((with_reducible apply ACall.pure0 [] (hd)); (focus (exact vwA))) | ((with_reducible refine ACall.pure [] (.pv _) ?_ (hwf) ?_); (focus (exact vwA)))))); (simp only [PV.scal, PV.scalL, if_true, Bool.and_true, Bool.and_false, Bool.false_and, Bool.true_and, frz, List.map_nil, Bool.false_eq_true, if_false, ite_self, hlt, sb_size, sb_drop, h2, Nat.le_refl, hw1, hw2, spl]); ((with_reducible first | refine finA hC ?_ | refine finD hC ?_); clear hC C)) | ((with_reducible first | refine aops_cons' fun C hC => ?_ | refine aopsD_cons' fun C hC => ?_ | intro C hC); simp only [go_sem, hlt, sb_size, sb_drop, h2, Nat.le_refl, hw1, hw2, spl]; ((with_reducible first | refine finA hC ?_ | refine finD hC ?_); clear hC C)) | (with_reducible first | refine awp_seq_k fun K hK => ?_ | refine awp_reg_k fun K hK => ?_ | refine awp_dreg_k fun K hK => ?_ | (refine aops_nil ?_; refine hK _ _ ?_; try clear hK K) | (refine aopsD_nil ?_; refine hK _ _ _ ?_ ?_; (focus kernel_rfl); try clear hK K) | (refine thn_normal ?_; refine hK _ _ ?_; try clear hK K) | refine catch_normal ?_ | refine awp_skip_k ?_ | refine awp_ret_k ?_ | refine awp_exit_k ?_ | refine awp_block_k ?_ | (refine thn_exit ?_; try clear hK K) | (refine thn_ret ?_; try clear hK K) | refine catch_ret ?_ | refine catch_exit ?_ | (refine catch_other ?_ ?_; focus decide)) | ((with_reducible first | apply aops_guard' | apply aopsD_guard' | apply awp_cond_g); focus (simp only [go_sem, hlt, sb_size, sb_drop, h2, Nat.le_refl, hw1, hw2, spl]; exact rfl)) | (with_reducible first | refine gk_tt ?_ | refine gk_ff ?_ | refine ck_t ?_ | refine ck_f ?_) | ((with_reducible first | refine gk_tf ?_ | refine gk_ft ?_ | refine gk_u ?_ | refine gk_u' ?_); first | (intro _ e; (first | rw [put_some] at e | rw [put_none] at e); subst e) | (intro _ _ e e'; (first | rw [put_some] at e | rw [put_none] at e); subst e; subst e'))))
      refine thn_normal ?_
      refine hK1 _ _ _ _ _ (LeB [0, 1] (by refine ⟨?_, ?_, ?_⟩ <;> simp only [leFr, leFb, leHp, V.ren, V.renL, V.bd, V.bdL, allL, lt, Go.Ab.get, hget, List.map_cons, List.map_nil, List.length_cons, List.length_nil, List.length_append, List.getElem?_cons_zero, List.getElem?_cons_succ, List.getElem?_nil, Option.join_some, Option.join_none, List.getD_cons_zero, List.getD_cons_succ, List.getD_nil, Nat.reduceAdd, Nat.reduceLT, Nat.reduceEqDiff, Nat.zero_add, reduceIte, if_true, if_false, and_true, true_and, renL_vcells, allL_vcells, renL_pv, leBlk_some, eq_self, true_or, or_true, reduceCtorEq, false_or, allL])) ihn
    · exact fin (n + 1) i c hp he
abbrev t3 (r : Nat × Nat × Nat) : PV := .tup [p2 r.1 r.2.1, ii (r.2.2 : Nat)]
set_option maxHeartbeats 4000000 in
theorem tp_ok (u : Bool) (l : List UInt8) (off : Int) (hl : l.length ≤ 1048576) : PCall Tryd.prog 15 [sb l, ii off, .fn (wFn u) []] (t3 (toPos u l off)) := by
  generalize hR : toPos u l off = R
  refine PCall.intro (ps := [p2 R.1 R.2.1, ii (R.2.2 : Nat)]) fn15 (by simp) ?_
  unfold toPos at hR
  unfold ac15
  simp only [argFr]
  by_cases h1 : off < 0
  · rw [if_pos (.inl h1)] at hR; subst hR
    have e1 : decide (off < 0) = true := decide_eq_true h1
    (repeat' (first | ((with_reducible first | refine aops_cons' fun C hC => ?_ | refine aopsD_cons' fun C hC => ?_ | intro C hC); simp only [go_sem, e1, spl]; ((with_reducible first | refine finA hC ?_ | refine finD hC ?_); clear hC C)) | (with_reducible first | refine awp_seq_k fun K hK => ?_ | refine awp_reg_k fun K hK => ?_ | refine awp_dreg_k fun K hK => ?_ | (refine aops_nil ?_; refine hK _ _ ?_; try clear hK K) | (refine aopsD_nil ?_; refine hK _ _ _ ?_ ?_; (focus kernel_rfl); try clear hK K) | (refine thn_normal ?_; refine hK _ _ ?_; try clear hK K) | refine catch_normal ?_ | refine awp_skip_k ?_ | refine awp_ret_k ?_ | refine awp_exit_k ?_ | refine awp_block_k ?_ | (refine thn_exit ?_; try clear hK K) | (refine thn_ret ?_; try clear hK K) | refine catch_ret ?_ | refine catch_exit ?_ | (refine catch_other ?_ ?_; focus decide)) | ((with_reducible first | apply aops_guard' | apply aopsD_guard' | apply awp_cond_g); focus (simp only [go_sem, e1, spl]; exact rfl)) | (with_reducible first | refine gk_tt ?_ | refine gk_ff ?_ | refine ck_t ?_ | refine ck_f ?_) | ((with_reducible first | refine gk_tf ?_ | refine gk_ft ?_ | refine gk_u ?_ | refine gk_u' ?_); first | (intro _ e; (first | rw [put_some] at e | rw [put_none] at e); subst e) | (intro _ _ e e'; (first | rw [put_some] at e | rw [put_none] at e); subst e; subst e'))))
    (refine retP_ret (List.range 40) rfl ?_; exact vwA)
  · by_cases h2 : off > l.length
    · rw [if_pos (.inr h2)] at hR; subst hR
      have e1 : decide (off < 0) = false := decide_eq_false h1
      have e2 : decide (off > (l.length : Int)) = true := decide_eq_true h2
      (repeat' (first | ((with_reducible first | refine aops_cons' fun C hC => ?_ | refine aopsD_cons' fun C hC => ?_ | intro C hC); simp only [go_sem, e1, e2, sb_size, spl]; ((with_reducible first | refine finA hC ?_ | refine finD hC ?_); clear hC C)) | (with_reducible first | refine awp_seq_k fun K hK => ?_ | refine awp_reg_k fun K hK => ?_ | refine awp_dreg_k fun K hK => ?_ | (refine aops_nil ?_; refine hK _ _ ?_; try clear hK K) | (refine aopsD_nil ?_; refine hK _ _ _ ?_ ?_; (focus kernel_rfl); try clear hK K) | (refine thn_normal ?_; refine hK _ _ ?_; try clear hK K) | refine catch_normal ?_ | refine awp_skip_k ?_ | refine awp_ret_k ?_ | refine awp_exit_k ?_ | refine awp_block_k ?_ | (refine thn_exit ?_; try clear hK K) | (refine thn_ret ?_; try clear hK K) | refine catch_ret ?_ | refine catch_exit ?_ | (refine catch_other ?_ ?_; focus decide)) | ((with_reducible first | apply aops_guard' | apply aopsD_guard' | apply awp_cond_g); focus (simp only [go_sem, e1, e2, sb_size, spl]; exact rfl)) | (with_reducible first | refine gk_tt ?_ | refine gk_ff ?_ | refine ck_t ?_ | refine ck_f ?_) | ((with_reducible first | refine gk_tf ?_ | refine gk_ft ?_ | refine gk_u ?_ | refine gk_u' ?_); first | (intro _ e; (first | rw [put_some] at e | rw [put_none] at e); subst e) | (intro _ _ e e'; (first | rw [put_some] at e | rw [put_none] at e); subst e; subst e'))))
      (refine retP_ret (List.range 40) rfl ?_; exact vwA)
    · rw [if_neg (by omega)] at hR
      have e1 : decide (off < 0) = false := decide_eq_false h1
      have e2 : decide (off > (l.length : Int)) = false := decide_eq_false h2
      obtain ⟨o, rfl⟩ : ∃ o : Nat, off = o := ⟨off.toNat, by omega⟩
      have ho : o ≤ l.length := by omega
      rw [Int.toNat_natCast] at hR
      dsimp only at hR
      have hc := cnt_ok (l.take o)
      have hb := lib_ok (l.take o) (by rw [List.length_take]; omega)
      rw [List.length_take, Nat.min_eq_left ho, lastTo_take l o o (Nat.le_refl _)] at hb
      have hge := lastTo_ge l o
      have hl1 := lst_ln l o ho
      have hw : IntKind.i64.wrap (lastTo l o + 1) = ((lst l o : Nat) : Int) := by rw [wrapR (by omega) (by omega)]; unfold lst; omega
      have hrow := fun K (Q : Post) => tp_rows (K := K) (Q := Q) u l o (cntN (l.take o)) hl ho (walkP u l o o (lst l o) 0)
      generalize hW : walkP u l o o (lst l o) 0 = W at *
      (repeat' (first | ((first | (with_reducible refine aops_call fun C hC => ?_) | (with_reducible refine aopsD_call fun C hC => ?_) | ((with_reducible intro C hC); (with_reducible refine ax_call_mp ?_))); (first | (simp only [go_sem, e1, e2, sb_size, sb_take, ho, Nat.zero_le, hw, spl]; (first | ((with_reducible apply ACall.pure0 [] (hc)); (focus (exact vwA))) | ((with_reducible apply ACall.pure0 [] (hb)); (focus (exact vwA)))))); (simp only [PV.scal, PV.scalL, if_true, Bool.and_true, Bool.and_false, Bool.false_and, Bool.true_and, frz, List.map_nil, Bool.false_eq_true, if_false, ite_self, e1, e2, sb_size, sb_take, ho, Nat.zero_le, hw, spl]); ((with_reducible first | refine finA hC ?_ | refine finD hC ?_); clear hC C)) | ((with_reducible first | refine aops_cons' fun C hC => ?_ | refine aopsD_cons' fun C hC => ?_ | intro C hC); simp only [go_sem, e1, e2, sb_size, sb_take, ho, Nat.zero_le, hw, spl]; ((with_reducible first | refine finA hC ?_ | refine finD hC ?_); clear hC C)) | (with_reducible first | refine awp_seq_k fun K hK => ?_ | refine awp_reg_k fun K hK => ?_ | refine awp_dreg_k fun K hK => ?_ | (refine aops_nil ?_; refine hK _ _ ?_; try clear hK K) | (refine aopsD_nil ?_; refine hK _ _ _ ?_ ?_; (focus kernel_rfl); try clear hK K) | (refine thn_normal ?_; refine hK _ _ ?_; try clear hK K) | refine catch_normal ?_ | refine awp_skip_k ?_ | refine awp_ret_k ?_ | refine awp_exit_k ?_ | refine awp_block_k ?_ | (refine thn_exit ?_; try clear hK K) | (refine thn_ret ?_; try clear hK K) | refine catch_ret ?_ | refine catch_exit ?_ | (refine catch_other ?_ ?_; focus decide)) | ((with_reducible first | apply aops_guard' | apply aopsD_guard' | apply awp_cond_g); focus (simp only [go_sem, e1, e2, sb_size, sb_take, ho, Nat.zero_le, hw, spl]; exact rfl)) | (with_reducible first | refine gk_tt ?_ | refine gk_ff ?_ | refine ck_t ?_ | refine ck_f ?_) | ((with_reducible first | refine gk_tf ?_ | refine gk_ft ?_ | refine gk_u ?_ | refine gk_u' ?_); first | (intro _ e; (first | rw [put_some] at e | rw [put_none] at e); subst e) | (intro _ _ e e'; (first | rw [put_some] at e | rw [put_none] at e); subst e; subst e'))))
      refine awp_loop_k _ (LeB [0, 1] (by refine ⟨?_, ?_, ?_⟩ <;> simp only [leFr, leFb, leHp, V.ren, V.renL, V.bd, V.bdL, allL, lt, Go.Ab.get, hget, List.map_cons, List.map_nil, List.length_cons, List.length_nil, List.length_append, List.getElem?_cons_zero, List.getElem?_cons_succ, List.getElem?_nil, Option.join_some, Option.join_none, List.getD_cons_zero, List.getD_cons_succ, List.getD_nil, Nat.reduceAdd, Nat.reduceLT, Nat.reduceEqDiff, Nat.zero_add, reduceIte, if_true, if_false, and_true, true_and, renL_vcells, allL_vcells, renL_pv, leBlk_some, eq_self, true_or, or_true, reduceCtorEq, false_or, allL, c0])) (hrow _ _ (fun fr g9 g8 g6 g1 => hK _ _ ?_) o (lst l o) 0 (by omega) (by omega) (by omega) hW)
      cases hgt : decide ((W.1 : Int) > (o : Int)) with
      | true =>
        have := of_decide_eq_true hgt
        rw [if_pos (by omega)] at hR; subst hR
        (repeat' (first | ((with_reducible first | refine aops_cons' fun C hC => ?_ | refine aopsD_cons' fun C hC => ?_ | intro C hC); simp only [go_sem, g9, g8, g6, g1, hgt, spl]; ((with_reducible first | refine finA hC ?_ | refine finD hC ?_); clear hC C)) | (with_reducible first | refine awp_seq_k fun K hK => ?_ | refine awp_reg_k fun K hK => ?_ | refine awp_dreg_k fun K hK => ?_ | (refine aops_nil ?_; refine hK _ _ ?_; try clear hK K) | (refine aopsD_nil ?_; refine hK _ _ _ ?_ ?_; (focus kernel_rfl); try clear hK K) | (refine thn_normal ?_; refine hK _ _ ?_; try clear hK K) | refine catch_normal ?_ | refine awp_skip_k ?_ | refine awp_ret_k ?_ | refine awp_exit_k ?_ | refine awp_block_k ?_ | (refine thn_exit ?_; try clear hK K) | (refine thn_ret ?_; try clear hK K) | refine catch_ret ?_ | refine catch_exit ?_ | (refine catch_other ?_ ?_; focus decide)) | ((with_reducible first | apply aops_guard' | apply aopsD_guard' | apply awp_cond_g); focus (simp only [go_sem, g9, g8, g6, g1, hgt, spl]; exact rfl)) | (with_reducible first | refine gk_tt ?_ | refine gk_ff ?_ | refine ck_t ?_ | refine ck_f ?_) | ((with_reducible first | refine gk_tf ?_ | refine gk_ft ?_ | refine gk_u ?_ | refine gk_u' ?_); first | (intro _ e; (first | rw [put_some] at e | rw [put_none] at e); subst e) | (intro _ _ e e'; (first | rw [put_some] at e | rw [put_none] at e); subst e; subst e'))))
        refine retP_ret (vs := [.agg [.pv (ii 0), .pv (ii 0)], .pv (ii 3)]) (List.range 40) (by simp [resVs, resV, Go.Ab.get, g6, hget, mkv, lv]) ?_
        exact .cons _ _ _ _ (.agg _ _ (.cons _ _ _ _ (.pv _) (.cons _ _ _ _ (.pv _) .nil))) (.cons _ _ _ _ (.pv _) .nil)
      | false =>
        have := of_decide_eq_false hgt
        rw [if_neg (by omega)] at hR; subst hR
        (repeat' (first | ((with_reducible first | refine aops_cons' fun C hC => ?_ | refine aopsD_cons' fun C hC => ?_ | intro C hC); simp only [go_sem, g9, g8, g6, g1, hgt, spl]; ((with_reducible first | refine finA hC ?_ | refine finD hC ?_); clear hC C)) | (with_reducible first | refine awp_seq_k fun K hK => ?_ | refine awp_reg_k fun K hK => ?_ | refine awp_dreg_k fun K hK => ?_ | (refine aops_nil ?_; refine hK _ _ ?_; try clear hK K) | (refine aopsD_nil ?_; refine hK _ _ _ ?_ ?_; (focus kernel_rfl); try clear hK K) | (refine thn_normal ?_; refine hK _ _ ?_; try clear hK K) | refine catch_normal ?_ | refine awp_skip_k ?_ | refine awp_ret_k ?_ | refine awp_exit_k ?_ | refine awp_block_k ?_ | (refine thn_exit ?_; try clear hK K) | (refine thn_ret ?_; try clear hK K) | refine catch_ret ?_ | refine catch_exit ?_ | (refine catch_other ?_ ?_; focus decide)) | ((with_reducible first | apply aops_guard' | apply aopsD_guard' | apply awp_cond_g); focus (simp only [go_sem, g9, g8, g6, g1, hgt, spl]; exact rfl)) | (with_reducible first | refine gk_tt ?_ | refine gk_ff ?_ | refine ck_t ?_ | refine ck_f ?_) | ((with_reducible first | refine gk_tf ?_ | refine gk_ft ?_ | refine gk_u ?_ | refine gk_u' ?_); first | (intro _ e; (first | rw [put_some] at e | rw [put_none] at e); subst e) | (intro _ _ e e'; (first | rw [put_some] at e | rw [put_none] at e); subst e; subst e'))))
        refine retP_ret (vs := [.agg [.pv (ii (cntN (l.take o) : Nat)), .pv (ii (W.2 : Nat))], .pv (ii 0)]) (List.range 40) (by simp [resVs, resV, Go.Ab.get, g6, hget, mkv, lv]) ?_
        exact .cons _ _ _ _ (.agg _ _ (.cons _ _ _ _ (.pv _) (.cons _ _ _ _ (.pv _) .nil))) (.cons _ _ _ _ (.pv _) .nil)
theorem u16pos_ok (l : List UInt8) (off : Int) (hl : l.length ≤ 1048576) : PCall Tryd.prog 9 [sb l, ii off] (t3 (toPos true l off)) := by
  have h : PCall Tryd.prog 15 [sb l, ii off, .fn 16 []] (t3 (toPos true l off)) := tp_ok true l off hl
  generalize toPos true l off = R at *
  refine PCall.intro (ps := [p2 R.1 R.2.1, ii (R.2.2 : Nat)]) fn9 (by simp) ?_
  unfold ac9
  simp only [argFr]
  (repeat' (first | ((first | (with_reducible refine aops_call fun C hC => ?_) | (with_reducible refine aopsD_call fun C hC => ?_) | ((with_reducible intro C hC); (with_reducible refine ax_call_mp ?_))); (first | (simp only [go_sem, spl]; (first | ((with_reducible apply ACall.pure0 [] (h)); (focus (exact vwA)))))); (simp only [PV.scal, PV.scalL, if_true, Bool.and_true, Bool.and_false, Bool.false_and, Bool.true_and, frz, List.map_nil, Bool.false_eq_true, if_false, ite_self, spl]); ((with_reducible first | refine finA hC ?_ | refine finD hC ?_); clear hC C)) | ((with_reducible first | refine aops_cons' fun C hC => ?_ | refine aopsD_cons' fun C hC => ?_ | intro C hC); simp only [go_sem, spl]; ((with_reducible first | refine finA hC ?_ | refine finD hC ?_); clear hC C)) | (with_reducible first | refine awp_seq_k fun K hK => ?_ | refine awp_reg_k fun K hK => ?_ | refine awp_dreg_k fun K hK => ?_ | (refine aops_nil ?_; refine hK _ _ ?_; try clear hK K) | (refine aopsD_nil ?_; refine hK _ _ _ ?_ ?_; (focus kernel_rfl); try clear hK K) | (refine thn_normal ?_; refine hK _ _ ?_; try clear hK K) | refine catch_normal ?_ | refine awp_skip_k ?_ | refine awp_ret_k ?_ | refine awp_exit_k ?_ | refine awp_block_k ?_ | (refine thn_exit ?_; try clear hK K) | (refine thn_ret ?_; try clear hK K) | refine catch_ret ?_ | refine catch_exit ?_ | (refine catch_other ?_ ?_; focus decide)) | ((with_reducible first | apply aops_guard' | apply aopsD_guard' | apply awp_cond_g); focus (simp only [go_sem, spl]; exact rfl)) | (with_reducible first | refine gk_tt ?_ | refine gk_ff ?_ | refine ck_t ?_ | refine ck_f ?_) | ((with_reducible first | refine gk_tf ?_ | refine gk_ft ?_ | refine gk_u ?_ | refine gk_u' ?_); first | (intro _ e; (first | rw [put_some] at e | rw [put_none] at e); subst e) | (intro _ _ e e'; (first | rw [put_some] at e | rw [put_none] at e); subst e; subst e'))))
  (refine retP_ret (List.range 40) rfl ?_; exact vwA)
theorem rpos_ok (l : List UInt8) (off : Int) (hl : l.length ≤ 1048576) : PCall Tryd.prog 11 [sb l, ii off] (t3 (toPos false l off)) := by
  have h : PCall Tryd.prog 15 [sb l, ii off, .fn 18 []] (t3 (toPos false l off)) := tp_ok false l off hl
  generalize toPos false l off = R at *
  refine PCall.intro (ps := [p2 R.1 R.2.1, ii (R.2.2 : Nat)]) fn11 (by simp) ?_
  unfold ac11
  simp only [argFr]
  (repeat' (first | ((first | (with_reducible refine aops_call fun C hC => ?_) | (with_reducible refine aopsD_call fun C hC => ?_) | ((with_reducible intro C hC); (with_reducible refine ax_call_mp ?_))); (first | (simp only [go_sem, spl]; (first | ((with_reducible apply ACall.pure0 [] (h)); (focus (exact vwA)))))); (simp only [PV.scal, PV.scalL, if_true, Bool.and_true, Bool.and_false, Bool.false_and, Bool.true_and, frz, List.map_nil, Bool.false_eq_true, if_false, ite_self, spl]); ((with_reducible first | refine finA hC ?_ | refine finD hC ?_); clear hC C)) | ((with_reducible first | refine aops_cons' fun C hC => ?_ | refine aopsD_cons' fun C hC => ?_ | intro C hC); simp only [go_sem, spl]; ((with_reducible first | refine finA hC ?_ | refine finD hC ?_); clear hC C)) | (with_reducible first | refine awp_seq_k fun K hK => ?_ | refine awp_reg_k fun K hK => ?_ | refine awp_dreg_k fun K hK => ?_ | (refine aops_nil ?_; refine hK _ _ ?_; try clear hK K) | (refine aopsD_nil ?_; refine hK _ _ _ ?_ ?_; (focus kernel_rfl); try clear hK K) | (refine thn_normal ?_; refine hK _ _ ?_; try clear hK K) | refine catch_normal ?_ | refine awp_skip_k ?_ | refine awp_ret_k ?_ | refine awp_exit_k ?_ | refine awp_block_k ?_ | (refine thn_exit ?_; try clear hK K) | (refine thn_ret ?_; try clear hK K) | refine catch_ret ?_ | refine catch_exit ?_ | (refine catch_other ?_ ?_; focus decide)) | ((with_reducible first | apply aops_guard' | apply aopsD_guard' | apply awp_cond_g); focus (simp only [go_sem, spl]; exact rfl)) | (with_reducible first | refine gk_tt ?_ | refine gk_ff ?_ | refine ck_t ?_ | refine ck_f ?_) | ((with_reducible first | refine gk_tf ?_ | refine gk_ft ?_ | refine gk_u ?_ | refine gk_u' ?_); first | (intro _ e; (first | rw [put_some] at e | rw [put_none] at e); subst e) | (intro _ _ e e'; (first | rw [put_some] at e | rw [put_none] at e); subst e; subst e'))))
  (refine retP_ret (List.range 40) rfl ?_; exact vwA)
end Go.Proofs.YtgphapkpoamcgaaDoor
