/- H1: joined from DV0. -/
import Derived.Test.YtckjkdhmljfeeaaGreatDoorFnD
import Derived.Test.YtckjkdhmljfeeaaGreatDoorK3
/- The tree of a syntax node, how it stands as a value; looking for one in a list. -/
set_option maxRecDepth 10000
set_option linter.unusedSimpArgs false
set_option linter.unusedVariables false
namespace Go.Proofs.YtckjkdhmljfeeaaGreatDoor
open Go Go.Ab
inductive Nd where
  | mk (k v : Int) (tx : ByteArray) (st en ns : Int) (cs : List Nd)
abbrev ii (n : Int) : PV := .lit (.int .i64 n)
abbrev bb (n : Bool) : PV := .lit (.bool n)
abbrev ss (n : ByteArray) : PV := .lit (.string n)
mutual
def Nd.enc : Nd → PV
  | .mk k v tx st en ns cs => .agg [ii k, ii v, ss tx, ii st, ii en, ii ns, .list 7 (encN cs)]
def encN : List Nd → List PV
  | [] => []
  | t :: ts => t.enc :: encN ts
end
theorem encN_map (ts : List Nd) : encN ts = ts.map Nd.enc := by induction ts with
  | nil => rfl
  | cons t ts ih => simp [encN, ih]
theorem encN_len (ts : List Nd) : (encN ts).length = ts.length := by simp [encN_map]
theorem encN_at (ts us : List Nd) (t : Nd) : (encN (ts ++ t :: us))[ts.length]? = some t.enc := by simp [encN_map]
def Nd.k : Nd → Int | .mk k _ _ _ _ _ _ => k
def Nd.v : Nd → Int | .mk _ v _ _ _ _ _ => v
def Nd.tx : Nd → ByteArray | .mk _ _ tx _ _ _ _ => tx
def Nd.st : Nd → Int | .mk _ _ _ s _ _ _ => s
def Nd.en : Nd → Int | .mk _ _ _ _ e _ _ => e
def Nd.ns : Nd → Int | .mk _ _ _ _ _ n _ => n
def Nd.cs : Nd → List Nd | .mk _ _ _ _ _ _ c => c
def Nd.pc (t : Nd) : List PV := [ii t.k, ii t.v, ss t.tx, ii t.st, ii t.en, ii t.ns, .list 7 (encN t.cs)]
def Nd.nc (t : Nd) : List V := [.pv (ii t.k), .pv (ii t.v), .pv (ss t.tx), .pv (ii t.st), .pv (ii t.en), .pv (ii t.ns), .pv (.list 7 (encN t.cs))]
theorem nenc_eq (t : Nd) : t.enc = .agg [ii t.k, ii t.v, ss t.tx, ii t.st, ii t.en, ii t.ns, .list 7 (encN t.cs)] := by cases t; rfl
theorem cells_nenc (t : Nd) : (V.pv t.enc).cells? = some t.nc := by cases t; rfl
theorem pcells_nenc (t : Nd) : t.enc.cells = [ii t.k, ii t.v, ss t.tx, ii t.st, ii t.en, ii t.ns, .list 7 (encN t.cs)] := by cases t; rfl
theorem Vw_nc {h : HF} {B : List Nat} (t : Nd) : VwL h B t.nc t.pc :=
  .cons _ _ _ _ (.pv _) (.cons _ _ _ _ (.pv _) (.cons _ _ _ _ (.pv _) (.cons _ _ _ _ (.pv _) (.cons _ _ _ _ (.pv _) (.cons _ _ _ _ (.pv _) (.cons _ _ _ _ (.pv _) .nil))))))
theorem Vw_nenc {h : HF} {B : List Nat} (t : Nd) : Vw h B (.agg [.pv (ii t.k), .pv (ii t.v), .pv (ss t.tx), .pv (ii t.st), .pv (ii t.en), .pv (ii t.ns), .pv (.list 7 (encN t.cs))]) t.enc := by rw [nenc_eq]; exact .agg _ _ (Vw_nc t)
theorem Vw_pnenc {h : HF} {B : List Nat} (t : Nd) : Vw h B (.pv (.agg [ii t.k, ii t.v, ss t.tx, ii t.st, ii t.en, ii t.ns, .list 7 (encN t.cs)])) t.enc := by rw [nenc_eq]; exact .pv _
theorem nc_len (t : Nd) : t.nc.length = 7 := rfl
theorem c0 : ((0 : Nat) : Int) = 0 := rfl
/-- the place of the first one -/
def idxF {α : Type} (p : α → Bool) : List α → Nat → Int
  | [], _ => -1
  | x :: xs, i => if p x then (i : Int) else idxF p xs (i + 1)
set_option maxHeartbeats 1000000 in
theorem idxN_ok (fid : FuncId) (caps : List PV) (p : Nd → Bool) (ts : List Nd) (hp : ∀ t ∈ ts, PCall Tryz.prog fid ([Nd.enc t] ++ caps) (bb (p t))) : PCall Tryz.prog 83 [.list 7 (encN ts), .fn fid caps] (ii (idxF p ts 0)) := by
  refine PCall.intro' (ps := [ii (idxF p ts 0)]) fn83 (by simp) fun hok => ?_
  have hss : ts.length ≤ 1099511627776 := by
    simp only [PV.okL, PV.ok, encN_len, big] at hok; exact hok.1.1
  clear hok
  unfold ac83
  simp only [argFr]
  (repeat' (first | ((with_reducible first | refine aops_cons' fun C hC => ?_ | refine aopsD_cons' fun C hC => ?_ | intro C hC); simp only [go_sem, encN_len]; ((with_reducible first | refine finA hC ?_ | refine finD hC ?_); clear hC C)) | (with_reducible first | refine awp_seq_k fun K hK => ?_ | refine awp_reg_k fun K hK => ?_ | refine awp_dreg_k fun K hK => ?_ | (refine aops_nil ?_; refine hK _ _ ?_; try clear hK K) | (refine aopsD_nil ?_; refine hK _ _ _ ?_ ?_; (focus kernel_rfl); try clear hK K) | (refine thn_normal ?_; refine hK _ _ ?_; try clear hK K) | refine catch_normal ?_ | refine awp_skip_k ?_ | refine awp_ret_k ?_ | refine awp_exit_k ?_ | refine awp_block_k ?_ | (refine thn_exit ?_; try clear hK K) | (refine thn_ret ?_; try clear hK K) | refine catch_ret ?_ | refine catch_exit ?_ | (refine catch_other ?_ ?_; focus decide)) | ((with_reducible first | apply aops_guard' | apply aopsD_guard' | apply awp_cond_g); focus (simp only [go_sem, encN_len]; exact rfl)) | (with_reducible first | refine gk_tt ?_ | refine gk_ff ?_ | refine ck_t ?_ | refine ck_f ?_) | ((with_reducible first | refine gk_tf ?_ | refine gk_ft ?_ | refine gk_u ?_ | refine gk_u' ?_); first | (intro _ e; (first | rw [put_some] at e | rw [put_none] at e); subst e) | (intro _ _ e e'; (first | rw [put_some] at e | rw [put_none] at e); subst e; subst e'))))
  have rows : ∀ (rest pre : List Nd), pre ++ rest = ts → idxF p ts 0 = idxF p rest pre.length → loopN (awp Tryz.prog ac83_l0) (catch_ 0 (thn K (retP [RV.tmp 4] [ii (idxF p ts 0)]))) (rest.length + 1)
     [(8, .pv (ii pre.length)), (7, .pv (ii ts.length)), (1, .pv (.fn fid caps)), (0, .pv (.list 7 (encN ts)))] [] := by
    intro rest
    induction rest with
    | nil =>
      intro pre hpre hi
      have hpre : pre = ts := by simpa using hpre
      subst hpre
      refine loopN_k fun K1 hK1 => ?_
      unfold ac83_l0
      (repeat' (first | ((with_reducible first | refine aops_cons' fun C hC => ?_ | refine aopsD_cons' fun C hC => ?_ | intro C hC); simp only [go_sem, lt_end]; ((with_reducible first | refine finA hC ?_ | refine finD hC ?_); clear hC C)) | (with_reducible first | refine awp_seq_k fun K hK => ?_ | refine awp_reg_k fun K hK => ?_ | refine awp_dreg_k fun K hK => ?_ | (refine aops_nil ?_; refine hK _ _ ?_; try clear hK K) | (refine aopsD_nil ?_; refine hK _ _ _ ?_ ?_; (focus kernel_rfl); try clear hK K) | (refine thn_normal ?_; refine hK _ _ ?_; try clear hK K) | refine catch_normal ?_ | refine awp_skip_k ?_ | refine awp_ret_k ?_ | refine awp_exit_k ?_ | refine awp_block_k ?_ | (refine thn_exit ?_; try clear hK K) | (refine thn_ret ?_; try clear hK K) | refine catch_ret ?_ | refine catch_exit ?_ | (refine catch_other ?_ ?_; focus decide)) | ((with_reducible first | apply aops_guard' | apply aopsD_guard' | apply awp_cond_g); focus (simp only [go_sem, lt_end]; exact rfl)) | (with_reducible first | refine gk_tt ?_ | refine gk_ff ?_ | refine ck_t ?_ | refine ck_f ?_) | ((with_reducible first | refine gk_tf ?_ | refine gk_ft ?_ | refine gk_u ?_ | refine gk_u' ?_); first | (intro _ e; (first | rw [put_some] at e | rw [put_none] at e); subst e) | (intro _ _ e e'; (first | rw [put_some] at e | rw [put_none] at e); subst e; subst e'))))
      rw [hi]
      (refine retP_ret (List.range 40) rfl ?_; (try simp only [idxF, if_true, if_false, Bool.false_eq_true, Bool.not_true, Bool.not_false]); exact vwA)
    | cons t rest ih =>
      intro pre hpre hi
      have hlt : decide ((pre.length : Int) < (ts.length : Int)) = true := by subst hpre; exact lt_app _ _ _
      have hat : (encN ts)[pre.length]? = some t.enc := by subst hpre; exact encN_at _ _ _
      have hb : pre.length + 1 ≤ big := by have := congrArg List.length hpre; simp at this; unfold big; omega
      have hc := hp t (by subst hpre; simp)
      refine loopN_k fun K1 hK1 => ?_
      unfold ac83_l0
      cases hpt : p t with
      | true =>
        rw [hpt] at hc
        (repeat' (first | ((first | (with_reducible refine aops_call fun C hC => ?_) | (with_reducible refine aopsD_call fun C hC => ?_) | ((with_reducible intro C hC); (with_reducible refine ax_call_mp ?_))); (first | (simp only [go_sem, hlt, hat, cells_nenc, pcells_nenc]; (first | ((with_reducible refine ACall.pure [] (.pv _) ?_ (hc) ?_); (focus (exact vwA)))))); (simp only [PV.scal, PV.scalL, if_true, Bool.and_true, Bool.and_false, Bool.false_and, Bool.true_and, frz, List.map_nil, Bool.false_eq_true, if_false, ite_self, hlt, hat, cells_nenc, pcells_nenc]); ((with_reducible first | refine finA hC ?_ | refine finD hC ?_); clear hC C)) | ((with_reducible first | refine aops_cons' fun C hC => ?_ | refine aopsD_cons' fun C hC => ?_ | intro C hC); simp only [go_sem, hlt, hat, cells_nenc, pcells_nenc]; ((with_reducible first | refine finA hC ?_ | refine finD hC ?_); clear hC C)) | (with_reducible first | refine awp_seq_k fun K hK => ?_ | refine awp_reg_k fun K hK => ?_ | refine awp_dreg_k fun K hK => ?_ | (refine aops_nil ?_; refine hK _ _ ?_; try clear hK K) | (refine aopsD_nil ?_; refine hK _ _ _ ?_ ?_; (focus kernel_rfl); try clear hK K) | (refine thn_normal ?_; refine hK _ _ ?_; try clear hK K) | refine catch_normal ?_ | refine awp_skip_k ?_ | refine awp_ret_k ?_ | refine awp_exit_k ?_ | refine awp_block_k ?_ | (refine thn_exit ?_; try clear hK K) | (refine thn_ret ?_; try clear hK K) | refine catch_ret ?_ | refine catch_exit ?_ | (refine catch_other ?_ ?_; focus decide)) | ((with_reducible first | apply aops_guard' | apply aopsD_guard' | apply awp_cond_g); focus (simp only [go_sem, hlt, hat, cells_nenc, pcells_nenc]; exact rfl)) | (with_reducible first | refine gk_tt ?_ | refine gk_ff ?_ | refine ck_t ?_ | refine ck_f ?_) | ((with_reducible first | refine gk_tf ?_ | refine gk_ft ?_ | refine gk_u ?_ | refine gk_u' ?_); first | (intro _ e; (first | rw [put_some] at e | rw [put_none] at e); subst e) | (intro _ _ e e'; (first | rw [put_some] at e | rw [put_none] at e); subst e; subst e'))))
        simp only [idxF, hpt, if_true] at hi
        rw [hi]
        (refine retP_ret (List.range 40) rfl ?_; exact vwA)
      | false =>
        rw [hpt] at hc
        (repeat' (first | ((first | (with_reducible refine aops_call fun C hC => ?_) | (with_reducible refine aopsD_call fun C hC => ?_) | ((with_reducible intro C hC); (with_reducible refine ax_call_mp ?_))); (first | (simp only [go_sem, hlt, hat, cells_nenc, pcells_nenc]; (first | ((with_reducible refine ACall.pure [] (.pv _) ?_ (hc) ?_); (focus (exact vwA)))))); (simp only [PV.scal, PV.scalL, if_true, Bool.and_true, Bool.and_false, Bool.false_and, Bool.true_and, frz, List.map_nil, Bool.false_eq_true, if_false, ite_self, hlt, hat, cells_nenc, pcells_nenc]); ((with_reducible first | refine finA hC ?_ | refine finD hC ?_); clear hC C)) | ((with_reducible first | refine aops_cons' fun C hC => ?_ | refine aopsD_cons' fun C hC => ?_ | intro C hC); simp only [go_sem, hlt, hat, cells_nenc, pcells_nenc]; ((with_reducible first | refine finA hC ?_ | refine finD hC ?_); clear hC C)) | (with_reducible first | refine awp_seq_k fun K hK => ?_ | refine awp_reg_k fun K hK => ?_ | refine awp_dreg_k fun K hK => ?_ | (refine aops_nil ?_; refine hK _ _ ?_; try clear hK K) | (refine aopsD_nil ?_; refine hK _ _ _ ?_ ?_; (focus kernel_rfl); try clear hK K) | (refine thn_normal ?_; refine hK _ _ ?_; try clear hK K) | refine catch_normal ?_ | refine awp_skip_k ?_ | refine awp_ret_k ?_ | refine awp_exit_k ?_ | refine awp_block_k ?_ | (refine thn_exit ?_; try clear hK K) | (refine thn_ret ?_; try clear hK K) | refine catch_ret ?_ | refine catch_exit ?_ | (refine catch_other ?_ ?_; focus decide)) | ((with_reducible first | apply aops_guard' | apply aopsD_guard' | apply awp_cond_g); focus (simp only [go_sem, hlt, hat, cells_nenc, pcells_nenc]; exact rfl)) | (with_reducible first | refine gk_tt ?_ | refine gk_ff ?_ | refine ck_t ?_ | refine ck_f ?_) | ((with_reducible first | refine gk_tf ?_ | refine gk_ft ?_ | refine gk_u ?_ | refine gk_u' ?_); first | (intro _ e; (first | rw [put_some] at e | rw [put_none] at e); subst e) | (intro _ _ e e'; (first | rw [put_some] at e | rw [put_none] at e); subst e; subst e'))))
        have hw := wrapS (n := pre.length) (by unfold big at hb; omega)
        refine thn_normal ?_
        refine hK1 _ _ _ _ _ (LeB [] (by refine ⟨?_, ?_, ?_⟩ <;> simp only [leFr, leFb, leHp, V.ren, V.renL, V.bd, V.bdL, allL, lt, Go.Ab.get, hget, List.map_cons, List.map_nil, List.length_cons, List.length_nil, List.length_append, List.getElem?_cons_zero, List.getElem?_cons_succ, List.getElem?_nil, Option.join_some, Option.join_none, List.getD_cons_zero, List.getD_cons_succ, List.getD_nil, Nat.reduceAdd, Nat.reduceLT, Nat.reduceEqDiff, Nat.zero_add, reduceIte, if_true, if_false, and_true, true_and, renL_vcells, allL_vcells, renL_pv, leBlk_some, eq_self, true_or, or_true, reduceCtorEq, false_or, hw, List.length_append])) (ih (pre ++ [t]) (by simp [hpre]) (by simpa [idxF, hpt] using hi))
  refine awp_loop_k _ (LeB [] (by refine ⟨?_, ?_, ?_⟩ <;> simp only [leFr, leFb, leHp, V.ren, V.renL, V.bd, V.bdL, allL, lt, Go.Ab.get, hget, List.map_cons, List.map_nil, List.length_cons, List.length_nil, List.length_append, List.getElem?_cons_zero, List.getElem?_cons_succ, List.getElem?_nil, Option.join_some, Option.join_none, List.getD_cons_zero, List.getD_cons_succ, List.getD_nil, Nat.reduceAdd, Nat.reduceLT, Nat.reduceEqDiff, Nat.zero_add, reduceIte, if_true, if_false, and_true, true_and, renL_vcells, allL_vcells, renL_pv, leBlk_some, eq_self, true_or, or_true, reduceCtorEq, false_or, c0])) (rows ts [] rfl rfl)
theorem idxF_ge {α : Type} (p : α → Bool) : ∀ (ts : List α) (i : Nat), decide (idxF p ts i ≥ 0) = ts.any p
  | [], _ => rfl
  | t :: ts, i => by
    simp only [idxF, List.any_cons]
    by_cases h : p t = true
    · simp only [h, if_true, Bool.true_or, decide_eq_true_eq]; omega
    · simp only [h, Bool.false_or, Bool.false_eq_true, if_false]; exact idxF_ge p ts (i + 1)
theorem hasN_ok (fid : FuncId) (caps : List PV) (p : Nd → Bool) (ts : List Nd) (hp : ∀ t ∈ ts, PCall Tryz.prog fid ([Nd.enc t] ++ caps) (bb (p t))) : PCall Tryz.prog 36 [.list 7 (encN ts), .fn fid caps] (bb (ts.any p)) := by
  have h := idxN_ok fid caps p ts hp
  refine PCall.intro (ps := [bb (ts.any p)]) fn36 (by simp) ?_
  unfold ac36
  simp only [argFr]
  (repeat' (first | ((first | (with_reducible refine aops_call fun C hC => ?_) | (with_reducible refine aopsD_call fun C hC => ?_) | ((with_reducible intro C hC); (with_reducible refine ax_call_mp ?_))); (first | (simp only [go_sem, idxF_ge]; (first | ((with_reducible apply ACall.pure0 [] (h)); (focus (exact vwA)))))); (simp only [PV.scal, PV.scalL, if_true, Bool.and_true, Bool.and_false, Bool.false_and, Bool.true_and, frz, List.map_nil, Bool.false_eq_true, if_false, ite_self, idxF_ge]); ((with_reducible first | refine finA hC ?_ | refine finD hC ?_); clear hC C)) | ((with_reducible first | refine aops_cons' fun C hC => ?_ | refine aopsD_cons' fun C hC => ?_ | intro C hC); simp only [go_sem, idxF_ge]; ((with_reducible first | refine finA hC ?_ | refine finD hC ?_); clear hC C)) | (with_reducible first | refine awp_seq_k fun K hK => ?_ | refine awp_reg_k fun K hK => ?_ | refine awp_dreg_k fun K hK => ?_ | (refine aops_nil ?_; refine hK _ _ ?_; try clear hK K) | (refine aopsD_nil ?_; refine hK _ _ _ ?_ ?_; (focus kernel_rfl); try clear hK K) | (refine thn_normal ?_; refine hK _ _ ?_; try clear hK K) | refine catch_normal ?_ | refine awp_skip_k ?_ | refine awp_ret_k ?_ | refine awp_exit_k ?_ | refine awp_block_k ?_ | (refine thn_exit ?_; try clear hK K) | (refine thn_ret ?_; try clear hK K) | refine catch_ret ?_ | refine catch_exit ?_ | (refine catch_other ?_ ?_; focus decide)) | ((with_reducible first | apply aops_guard' | apply aopsD_guard' | apply awp_cond_g); focus (simp only [go_sem, idxF_ge]; exact rfl)) | (with_reducible first | refine gk_tt ?_ | refine gk_ff ?_ | refine ck_t ?_ | refine ck_f ?_) | ((with_reducible first | refine gk_tf ?_ | refine gk_ft ?_ | refine gk_u ?_ | refine gk_u' ?_); first | (intro _ e; (first | rw [put_some] at e | rw [put_none] at e); subst e) | (intro _ _ e e'; (first | rw [put_some] at e | rw [put_none] at e); subst e; subst e'))))
  (refine retP_ret (List.range 40) rfl ?_; exact vwA)
end Go.Proofs.YtckjkdhmljfeeaaGreatDoor
