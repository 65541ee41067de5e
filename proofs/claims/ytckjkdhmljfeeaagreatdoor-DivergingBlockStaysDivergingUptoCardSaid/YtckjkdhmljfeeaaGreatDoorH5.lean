/- H5: joined from DV4. -/
import Derived.Test.YtckjkdhmljfeeaaGreatDoorFnD
import Derived.Test.YtckjkdhmljfeeaaGreatDoorH2
import Derived.Test.YtckjkdhmljfeeaaGreatDoorY2
/- DivergingBlockStaysDiverging: the walk. -/
set_option maxRecDepth 10000
set_option linter.unusedSimpArgs false
set_option linter.unusedVariables false
namespace Go.Proofs.YtckjkdhmljfeeaaGreatDoor
open Go Go.Ab
def kN (k : Int) (cs : List Nd) : Nd := .mk k 0 ⟨#[]⟩ 0 0 0 cs
def blkN (t : Nd) : Nd := kN 21 [kN 26 [t], kN 0 []]
theorem dvg_none : dvg (kN 0 []) = false := by rw [dvg_eq]; rfl
theorem dvg_stmt (t : Nd) : dvg (kN 26 [t]) = dvg t := by rw [dvg_eq]; rfl
theorem dvg_blk (t : Nd) : dvg (blkN t) = dvg t := by
  rw [dvg_eq]
  show dat dvg [kN 26 [t], kN 0 []] 0 = _
  exact dvg_stmt t
theorem dvg_one (t : Nd) : dvg (kN 37 [kN 28 [], blkN t, kN 0 []]) = false := by
  rw [dvg_eq]
  show (dvg (blkN t) && dvg (kN 0 [])) = false
  rw [dvg_none, Bool.and_false]
theorem dvg_two (t : Nd) : dvg (kN 37 [kN 28 [], blkN t, blkN t]) = dvg t := by
  rw [dvg_eq]
  show (dvg (blkN t) && dvg (blkN t)) = _
  rw [dvg_blk, Bool.and_self]
set_option maxHeartbeats 4000000 in
theorem law4_ok (t : Nd) : PCall Tryz.prog 4 [t.enc] (bb true) := by
  have w := works13
  have a := div_ok _ t (Nat.lt_succ_self _)
  have b := div_ok _ (blkN t) (Nat.lt_succ_self _)
  have c := div_ok _ (kN 37 [kN 28 [], blkN t, kN 0 []]) (Nat.lt_succ_self _)
  have d := div_ok _ (kN 37 [kN 28 [], blkN t, blkN t]) (Nat.lt_succ_self _)
  rw [dvg_blk] at b
  rw [dvg_one] at c
  rw [dvg_two] at d
  generalize dvg t = D at a b d
  have hbe : (D == D) = true := beq_self_eq_true _
  cases t with
  | mk k v tx st en ns cs =>
  simp only [blkN, kN, Nd.enc, encN] at a b c d ⊢
  refine PCall.intro (ps := [bb true]) fn4 (by simp) ?_
  unfold ac4
  simp only [argFr]
  (repeat' (first | ((first | (with_reducible refine aops_call fun C hC => ?_) | (with_reducible refine aopsD_call fun C hC => ?_) | ((with_reducible intro C hC); (with_reducible refine ax_call_mp ?_))); (first | (simp only [go_sem, hbe]; (first | ((with_reducible apply ACall.pure0 [] (w)); (focus (exact vwA))) | ((with_reducible apply ACall.pure0 [] (a)); (focus (exact vwA))) | ((with_reducible apply ACall.pure0 [2, 4, 6, 8] (b)); (focus (exact vwA))) | ((with_reducible apply ACall.pure0 [2, 4, 6, 8] (c)); (focus (exact vwA))) | ((with_reducible apply ACall.pure0 [2, 4, 6, 8] (d)); (focus (exact vwA)))))); (simp only [PV.scal, PV.scalL, if_true, Bool.and_true, Bool.and_false, Bool.false_and, Bool.true_and, frz, List.map_nil, Bool.false_eq_true, if_false, ite_self, go_sem, hbe]); ((with_reducible first | refine finA hC ?_ | refine finD hC ?_); clear hC C)) | ((with_reducible first | refine aops_cons' fun C hC => ?_ | refine aopsD_cons' fun C hC => ?_ | intro C hC); simp only [go_sem, hbe]; ((with_reducible first | refine finA hC ?_ | refine finD hC ?_); clear hC C)) | (with_reducible first | refine awp_seq_k fun K hK => ?_ | refine awp_reg_k fun K hK => ?_ | refine awp_dreg_k fun K hK => ?_ | (refine aops_nil ?_; refine hK _ _ ?_; try clear hK K) | (refine aopsD_nil ?_; refine hK _ _ _ ?_ ?_; (focus kernel_rfl); try clear hK K) | (refine thn_normal ?_; refine hK _ _ ?_; try clear hK K) | refine catch_normal ?_ | refine awp_skip_k ?_ | refine awp_ret_k ?_ | refine awp_exit_k ?_ | refine awp_block_k ?_ | (refine thn_exit ?_; try clear hK K) | (refine thn_ret ?_; try clear hK K) | refine catch_ret ?_ | refine catch_exit ?_ | (refine catch_other ?_ ?_; focus decide)) | ((with_reducible first | apply aops_guard' | apply aopsD_guard' | apply awp_cond_g); focus (simp only [go_sem, hbe]; exact rfl)) | (with_reducible first | refine gk_tt ?_ | refine gk_ff ?_ | refine ck_t ?_ | refine ck_f ?_) | ((with_reducible first | refine gk_tf ?_ | refine gk_ft ?_ | refine gk_u ?_ | refine gk_u' ?_); first | (intro _ e; (first | rw [put_some] at e | rw [put_none] at e); subst e) | (intro _ _ e e'; (first | rw [put_some] at e | rw [put_none] at e); subst e; subst e'))))
  (refine retP_ret (List.range 40) rfl ?_; exact vwA)
end Go.Proofs.YtckjkdhmljfeeaaGreatDoor
