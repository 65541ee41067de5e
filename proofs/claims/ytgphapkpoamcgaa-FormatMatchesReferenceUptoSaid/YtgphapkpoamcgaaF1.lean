/- Format: what it computes; the names of symbols. -/
import Derived.Test.YtgphapkpoamcgaaFnC
import Derived.Test.YtgphapkpoamcgaaS1
import Derived.Test.YtgphapkpoamcgaaJ1
set_option maxRecDepth 10000
set_option linter.unusedSimpArgs false
set_option linter.unusedVariables false
namespace Go.Proofs.Ytgphapkpoamcgaa
open Go Go.Ab
structure Sy where
  kd : Int
  a : Int
  b : Int
  c : Int
  nm : List UInt8
  e : Bool
abbrev sL (l : List UInt8) : PV := .lit (.string ⟨l.toArray⟩)
def Sy.enc (s : Sy) : PV := .agg [ii s.kd, ii s.a, ii s.b, ii s.c, sL s.nm, bb s.e]
def encS (ss : List Sy) : List PV := ss.map Sy.enc
theorem encS_len (ss : List Sy) : (encS ss).length = ss.length := by simp [encS]
theorem encS_get {ss : List Sy} {i : Nat} {s : Sy} (h : ss[i]? = some s) : (encS ss)[i]? = some s.enc := by simp [encS, h]
theorem pcells_sy (s : Sy) : s.enc.cells = [ii s.kd, ii s.a, ii s.b, ii s.c, sL s.nm, bb s.e] := rfl
abbrev rsv (ss : List Sy) (p q : PV) : PV := .agg [.list 6 (encS ss), p, q]
theorem cells_rsv (ss : List Sy) (p q : PV) : (rsv ss p q).cells = [.list 6 (encS ss), p, q] := rfl
theorem sadd (a b : List UInt8) : (⟨a.toArray⟩ : ByteArray) ++ ⟨b.toArray⟩ = ⟨(a ++ b).toArray⟩ := by
  apply ByteArray.ext; simp [ByteArray.data_append]
def nmAt (ss : List Sy) (id : Int) : List UInt8 := if decide (id < 0) then [95] else match ss[id.toNat]? with
  | some s => s.nm
  | none => [95]
def trAt (ss : List Sy) (id : Int) : Bool := if decide (id < 0) then false else match ss[id.toNat]? with
  | some s => s.kd == 5
  | none => false
mutual
def fm (ss : List Sy) : Ty → List UInt8
  | .mk k id ts =>
    if k == 3 then [105, 110, 116] else if k == 4 then [98, 111, 111, 108] else if k == 5 then [115, 116, 114, 105, 110, 103] else if k == 6 then [40, 41]
    else if k == 2 then (if trAt ss id then [83, 101, 108, 102] else nmAt ss id)
    else if k == 7 then (if ts.length == 0 then nmAt ss id else nmAt ss id ++ ([60] ++ Lib.join (fmL ss ts) [44, 32] ++ [62]))
    else if ts.length == 0 then [95]
    else if k == 8 then (if id == 0 then [38] ++ (fmL ss ts).headD [] else [38, 109, 117, 116, 32] ++ (fmL ss ts).headD [])
    else if k == 9 then (if (ts.getLast?.map Ty.kd).getD 0 == 6 then [102, 110, 40] ++ Lib.join (fmL ss ts).dropLast [44, 32] ++ [41]
      else [102, 110, 40] ++ Lib.join (fmL ss ts).dropLast [44, 32] ++ [41] ++ ([32, 45, 62, 32] ++ (fmL ss ts).getLastD []))
    else if k == 10 then (fmL ss ts).headD [] ++ [58, 58] ++ nmAt ss id
    else [95]
def fmL (ss : List Sy) : List Ty → List (List UInt8)
  | [] => []
  | t :: ts => fm ss t :: fmL ss ts
end
theorem fmL_map (ss : List Sy) (ts : List Ty) : fmL ss ts = ts.map (fm ss) := by induction ts with
  | nil => rfl
  | cons t ts ih => simp [fmL, ih]
set_option maxHeartbeats 1000000 in
theorem name_ok (ss : List Sy) (p q : PV) (id : Int) : PCall Try.prog 92 [rsv ss p q, ii id] (sL (nmAt ss id)) := by
  refine PCall.intro (ps := [sL (nmAt ss id)]) fn92 (by simp) ?_
  unfold ac92
  simp only [argFr, Nat.zero_add]
  cases h0 : decide (id < 0) with
  | true =>
    (repeat' (first | ((with_reducible refine aops_cons' fun C hC => ?_); simp only [go_sem, h0, cells_rsv]; (with_reducible refine finA hC ?_); clear hC C) | ((with_reducible refine aopsD_cons' fun C hC => ?_); simp only [go_sem, h0, cells_rsv]; (with_reducible refine finD hC ?_); clear hC C) | ((with_reducible refine awp_seq_k fun K hK => ?_)) | ((with_reducible refine awp_reg_k fun K hK => ?_)) | ((with_reducible refine awp_dreg_k fun K hK => ?_)) | ((with_reducible refine aops_nil ?_); (with_reducible refine hK _ _ ?_); try clear hK K) | ((with_reducible refine aopsD_nil ?_); (with_reducible refine hK _ _ _ ?_ ?_); (focus (kernel_rfl)); try clear hK K) | ((with_reducible refine thn_normal ?_); (with_reducible refine hK _ _ ?_); try clear hK K) | ((with_reducible refine catch_normal ?_)) | ((with_reducible refine awp_skip_k ?_)) | ((with_reducible refine awp_ret_k ?_)) | ((with_reducible refine awp_exit_k ?_)) | ((with_reducible refine awp_block_k ?_)) | ((with_reducible refine thn_exit ?_); try clear hK K) | ((with_reducible refine thn_ret ?_); try clear hK K) | ((with_reducible refine catch_ret ?_)) | ((with_reducible refine catch_exit ?_)) | ((with_reducible refine catch_other ?_ ?_); (focus (decide))) | ((with_reducible apply aops_guard'); (focus (simp only [go_sem, h0, cells_rsv]; exact rfl))) | ((with_reducible apply aopsD_guard'); (focus (simp only [go_sem, h0, cells_rsv]; exact rfl))) | (first | (with_reducible refine gk_tt ?_) | (with_reducible refine gk_ff ?_)) | ((with_reducible intro C hC); simp only [go_sem, h0, cells_rsv]; (first | (with_reducible refine finA hC ?_); clear hC C | (with_reducible refine finD hC ?_); clear hC C)) | ((first | (with_reducible refine gk_tf ?_) | (with_reducible refine gk_ft ?_) | (with_reducible refine gk_u ?_) | (with_reducible refine gk_u' ?_)); first | (intro _ e; (first | rw [put_some] at e | rw [put_none] at e); subst e) | (intro _ _ e e'; (first | rw [put_some] at e | rw [put_none] at e); subst e; subst e')) | ((with_reducible apply awp_cond_g); (focus (simp only [go_sem, h0, cells_rsv]; exact rfl))) | (with_reducible refine ck_t ?_) | (with_reducible refine ck_f ?_)))
    (refine retP_ret (List.range 40) rfl ?_; (try simp only [nmAt, h0, if_true, if_false, Bool.false_eq_true, Bool.not_true, Bool.not_false]); exact vwA)
  | false =>
    have hn : 0 ≤ id := by simpa using h0
    cases h1 : decide (id ≥ (ss.length : Int)) with
    | true =>
      have h2 : ss[id.toNat]? = none := List.getElem?_eq_none (by have := of_decide_eq_true h1; omega)
      (repeat' (first | ((with_reducible refine aops_cons' fun C hC => ?_); simp only [go_sem, h0, h1, cells_rsv, encS_len]; (with_reducible refine finA hC ?_); clear hC C) | ((with_reducible refine aopsD_cons' fun C hC => ?_); simp only [go_sem, h0, h1, cells_rsv, encS_len]; (with_reducible refine finD hC ?_); clear hC C) | ((with_reducible refine awp_seq_k fun K hK => ?_)) | ((with_reducible refine awp_reg_k fun K hK => ?_)) | ((with_reducible refine awp_dreg_k fun K hK => ?_)) | ((with_reducible refine aops_nil ?_); (with_reducible refine hK _ _ ?_); try clear hK K) | ((with_reducible refine aopsD_nil ?_); (with_reducible refine hK _ _ _ ?_ ?_); (focus (kernel_rfl)); try clear hK K) | ((with_reducible refine thn_normal ?_); (with_reducible refine hK _ _ ?_); try clear hK K) | ((with_reducible refine catch_normal ?_)) | ((with_reducible refine awp_skip_k ?_)) | ((with_reducible refine awp_ret_k ?_)) | ((with_reducible refine awp_exit_k ?_)) | ((with_reducible refine awp_block_k ?_)) | ((with_reducible refine thn_exit ?_); try clear hK K) | ((with_reducible refine thn_ret ?_); try clear hK K) | ((with_reducible refine catch_ret ?_)) | ((with_reducible refine catch_exit ?_)) | ((with_reducible refine catch_other ?_ ?_); (focus (decide))) | ((with_reducible apply aops_guard'); (focus (simp only [go_sem, h0, h1, cells_rsv, encS_len]; exact rfl))) | ((with_reducible apply aopsD_guard'); (focus (simp only [go_sem, h0, h1, cells_rsv, encS_len]; exact rfl))) | (first | (with_reducible refine gk_tt ?_) | (with_reducible refine gk_ff ?_)) | ((with_reducible intro C hC); simp only [go_sem, h0, h1, cells_rsv, encS_len]; (first | (with_reducible refine finA hC ?_); clear hC C | (with_reducible refine finD hC ?_); clear hC C)) | ((first | (with_reducible refine gk_tf ?_) | (with_reducible refine gk_ft ?_) | (with_reducible refine gk_u ?_) | (with_reducible refine gk_u' ?_)); first | (intro _ e; (first | rw [put_some] at e | rw [put_none] at e); subst e) | (intro _ _ e e'; (first | rw [put_some] at e | rw [put_none] at e); subst e; subst e')) | ((with_reducible apply awp_cond_g); (focus (simp only [go_sem, h0, h1, cells_rsv, encS_len]; exact rfl))) | (with_reducible refine ck_t ?_) | (with_reducible refine ck_f ?_)))
      (refine retP_ret (List.range 40) rfl ?_; (try simp only [nmAt, h0, h2, if_true, if_false, Bool.false_eq_true, Bool.not_true, Bool.not_false]); exact vwA)
    | false =>
      have h1' : id < (ss.length : Int) := by simpa using h1
      cases h2 : ss[id.toNat]? with
      | none => rw [List.getElem?_eq_none_iff] at h2; omega
      | some s =>
        have hat := encS_get h2
        (repeat' (first | ((with_reducible refine aops_cons' fun C hC => ?_); simp only [go_sem, h0, h1, cells_rsv, encS_len, hn, hat, pcells_sy]; (with_reducible refine finA hC ?_); clear hC C) | ((with_reducible refine aopsD_cons' fun C hC => ?_); simp only [go_sem, h0, h1, cells_rsv, encS_len, hn, hat, pcells_sy]; (with_reducible refine finD hC ?_); clear hC C) | ((with_reducible refine awp_seq_k fun K hK => ?_)) | ((with_reducible refine awp_reg_k fun K hK => ?_)) | ((with_reducible refine awp_dreg_k fun K hK => ?_)) | ((with_reducible refine aops_nil ?_); (with_reducible refine hK _ _ ?_); try clear hK K) | ((with_reducible refine aopsD_nil ?_); (with_reducible refine hK _ _ _ ?_ ?_); (focus (kernel_rfl)); try clear hK K) | ((with_reducible refine thn_normal ?_); (with_reducible refine hK _ _ ?_); try clear hK K) | ((with_reducible refine catch_normal ?_)) | ((with_reducible refine awp_skip_k ?_)) | ((with_reducible refine awp_ret_k ?_)) | ((with_reducible refine awp_exit_k ?_)) | ((with_reducible refine awp_block_k ?_)) | ((with_reducible refine thn_exit ?_); try clear hK K) | ((with_reducible refine thn_ret ?_); try clear hK K) | ((with_reducible refine catch_ret ?_)) | ((with_reducible refine catch_exit ?_)) | ((with_reducible refine catch_other ?_ ?_); (focus (decide))) | ((with_reducible apply aops_guard'); (focus (simp only [go_sem, h0, h1, cells_rsv, encS_len, hn, hat, pcells_sy]; exact rfl))) | ((with_reducible apply aopsD_guard'); (focus (simp only [go_sem, h0, h1, cells_rsv, encS_len, hn, hat, pcells_sy]; exact rfl))) | (first | (with_reducible refine gk_tt ?_) | (with_reducible refine gk_ff ?_)) | ((with_reducible intro C hC); simp only [go_sem, h0, h1, cells_rsv, encS_len, hn, hat, pcells_sy]; (first | (with_reducible refine finA hC ?_); clear hC C | (with_reducible refine finD hC ?_); clear hC C)) | ((first | (with_reducible refine gk_tf ?_) | (with_reducible refine gk_ft ?_) | (with_reducible refine gk_u ?_) | (with_reducible refine gk_u' ?_)); first | (intro _ e; (first | rw [put_some] at e | rw [put_none] at e); subst e) | (intro _ _ e e'; (first | rw [put_some] at e | rw [put_none] at e); subst e; subst e')) | ((with_reducible apply awp_cond_g); (focus (simp only [go_sem, h0, h1, cells_rsv, encS_len, hn, hat, pcells_sy]; exact rfl))) | (with_reducible refine ck_t ?_) | (with_reducible refine ck_f ?_)))
        (refine retP_ret (List.range 40) rfl ?_; (try simp only [nmAt, h0, h2, if_true, if_false, Bool.false_eq_true, Bool.not_true, Bool.not_false]); exact vwA)
end Go.Proofs.Ytgphapkpoamcgaa
