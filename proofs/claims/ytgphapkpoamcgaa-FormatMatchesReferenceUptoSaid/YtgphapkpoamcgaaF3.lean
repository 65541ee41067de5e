/- Format: how long; functions; the contract. -/
import Derived.Test.YtgphapkpoamcgaaF2
import Derived.Test.YtgphapkpoamcgaaS7
set_option maxRecDepth 10000
set_option linter.unusedSimpArgs false
set_option linter.unusedVariables false
namespace Go.Proofs.Ytgphapkpoamcgaa
open Go Go.Ab
def tot : List (List UInt8) → Nat
  | [] => 0
  | x :: xs => x.length + 2 + tot xs
theorem tot_app : ∀ (xs : List (List UInt8)) (z : List UInt8), tot (xs ++ [z]) = tot xs + (z.length + 2)
  | [], z => by simp [tot]
  | x :: xs, z => by simp only [List.cons_append, tot, tot_app xs z]; omega
theorem tail_le : ∀ xs : List (List UInt8), (Lib.joinTail [44, 32] xs).length ≤ tot xs
  | [] => by simp [Lib.joinTail]
  | x :: xs => by
    have := tail_le xs
    simp only [Lib.joinTail, List.map_cons, List.flatten_cons, List.length_append, tot] at this ⊢
    simp only [List.length_cons, List.length_nil]; omega
theorem join_le (xs : List (List UInt8)) : (Lib.join xs [44, 32]).length ≤ tot xs := by
  cases xs with
  | nil => simp [Lib.join_nil]
  | cons x xs =>
    rw [Lib.join_cons, List.length_append, tot]
    have := tail_le xs
    omega
theorem head_le {xs : List (List UInt8)} (h : xs ≠ []) : (xs.headD []).length + 2 ≤ tot xs := by
  cases xs with
  | nil => exact absurd rfl h
  | cons x xs => simp only [List.headD_cons, tot]; omega
theorem split_last {α : Type} : ∀ (ts : List α), ts ≠ [] → ∃ init z, ts = init ++ [z]
  | [], h => absurd rfl h
  | [t], _ => ⟨[], t, rfl⟩
  | t :: u :: us, _ => by
    obtain ⟨init, z, e⟩ := split_last (u :: us) (by simp)
    exact ⟨t :: init, z, by rw [e]; rfl⟩
theorem nm_le {ss : List Sy} (hM : ∀ s ∈ ss, s.nm.length ≤ 1048576) (id : Int) : (nmAt ss id).length ≤ 1048576 := by
  unfold nmAt
  split
  · simp
  · split
    · rename_i s e; exact hM s (List.mem_of_getElem? e)
    · simp
theorem ite_len {c : Prop} [Decidable c] {a b : List UInt8} {N : Nat} (h1 : c → a.length + 2 ≤ N) (h2 : ¬c → b.length + 2 ≤ N) : (if c then a else b).length + 2 ≤ N := by
  by_cases h : c
  · rw [if_pos h]; exact h1 h
  · rw [if_neg h]; exact h2 h
mutual
theorem fm_le {ss : List Sy} (hM : ∀ s ∈ ss, s.nm.length ≤ 1048576) {C : Nat} (hC : 1048592 ≤ C) : ∀ t : Ty, (fm ss t).length + 2 ≤ nds t * C
  | .mk k id ts => by
    have hn := nm_le hM id
    have hL := fmL_le hM hC ts
    have hj := join_le (fmL ss ts)
    have hc : nds (.mk k id ts) * C = ndsL ts * C + C := by simp only [nds, Nat.add_mul, Nat.one_mul]
    rw [hc]
    unfold fm
    refine ite_len (fun _ => ?_) (fun hne => ?_)
    · simp only [List.length_cons, List.length_nil]; omega
    · refine ite_len (fun _ => ?_) (fun hne => ?_)
      · simp only [List.length_cons, List.length_nil]; omega
      · refine ite_len (fun _ => ?_) (fun hne => ?_)
        · simp only [List.length_cons, List.length_nil]; omega
        · refine ite_len (fun _ => ?_) (fun hne => ?_)
          · simp only [List.length_cons, List.length_nil]; omega
          · refine ite_len (fun _ => ?_) (fun hne => ?_)
            · refine ite_len (fun _ => ?_) (fun hne => ?_)
              · simp only [List.length_cons, List.length_nil]; omega
              · omega
            · refine ite_len (fun _ => ?_) (fun hne => ?_)
              · refine ite_len (fun _ => ?_) (fun hne => ?_)
                · omega
                · simp only [List.length_append, List.length_cons, List.length_nil]; omega
              · refine ite_len (fun _ => ?_) (fun hne => ?_)
                · simp only [List.length_cons, List.length_nil]; omega
                · have hts : ts ≠ [] := fun h => hne (by subst h; rfl)
                  have hh := head_le (xs := fmL ss ts) (by intro h; have := congrArg List.length h; rw [fmL_len] at this; exact hts (List.length_eq_zero_iff.1 (by simpa using this)))
                  obtain ⟨init, z, e⟩ := split_last ts hts
                  have hd : (fmL ss ts).dropLast = fmL ss init := by rw [e, fmL_app]; simp [fmL]
                  have hl : (fmL ss ts).getLastD [] = fm ss z := by rw [e, fmL_app]; simp [fmL]
                  have ht : tot (fmL ss ts) = tot (fmL ss init) + ((fm ss z).length + 2) := by rw [e, fmL_app]; simp only [fmL]; rw [tot_app]
                  have hji := join_le (fmL ss init)
                  refine ite_len (fun _ => ?_) (fun hne => ?_)
                  · refine ite_len (fun _ => ?_) (fun hne => ?_)
                    · simp only [List.length_append, List.length_cons, List.length_nil]; omega
                    · simp only [List.length_append, List.length_cons, List.length_nil]; omega
                  · refine ite_len (fun _ => ?_) (fun hne => ?_)
                    · rw [hd, hl]
                      refine ite_len (fun _ => ?_) (fun hne => ?_)
                      · simp only [List.length_append, List.length_cons, List.length_nil]; omega
                      · simp only [List.length_append, List.length_cons, List.length_nil]; omega
                    · refine ite_len (fun _ => ?_) (fun hne => ?_)
                      · simp only [List.length_append, List.length_cons, List.length_nil]; omega
                      · simp only [List.length_cons, List.length_nil]; omega
theorem fmL_le {ss : List Sy} (hM : ∀ s ∈ ss, s.nm.length ≤ 1048576) {C : Nat} (hC : 1048592 ≤ C) : ∀ ts : List Ty, tot (fmL ss ts) ≤ ndsL ts * C
  | [] => by simp [fmL, tot]
  | t :: ts => by
    have h1 := fm_le hM hC t
    have h2 := fmL_le hM hC ts
    simp only [fmL, tot, ndsL, Nat.add_mul]; omega
end
theorem join_bd {ss : List Sy} (hM : ∀ s ∈ ss, s.nm.length ≤ 1048576) {ts : List Ty} (h : ndsL ts ≤ 1048576) : (Lib.join (fmL ss ts) [44, 32]).length ≤ 140737488355328 := by
  have h1 := join_le (fmL ss ts)
  have h2 := fmL_le hM (Nat.le_refl 1048592) ts
  omega
theorem szle (a b : List UInt8) (h : a.length + b.length ≤ 9223372036854775807) : ((⟨a.toArray⟩ : ByteArray).size + (⟨b.toArray⟩ : ByteArray).size ≤ 9223372036854775807) := by simpa [ByteArray.size] using h
def fnT (ss : List Sy) (init : List Ty) (z : Ty) : List UInt8 :=
  if z.kd == 6 then [102, 110, 40] ++ Lib.join (fmL ss init) [44, 32] ++ [41]
  else [102, 110, 40] ++ Lib.join (fmL ss init) [44, 32] ++ [41] ++ ([32, 45, 62, 32] ++ fm ss z)
set_option maxHeartbeats 4000000 in
theorem ffunc_ok (ss : List Sy) (p q : PV) (k id : Int) (init : List Ty) (z : Ty) (hrec : ∀ t ∈ init ++ [z], PCall Try.prog 45 [rsv ss p q, t.enc] (sL (fm ss t))) (hlen : (Lib.join (fmL ss init) [44, 32]).length ≤ 140737488355328) (hzl : (fm ss z).length ≤ 140737488355328) :
    PCall Try.prog 94 [rsv ss p q, (Ty.mk k id (init ++ [z])).enc] (sL (fnT ss init z)) := by
  have hl := flist_ok ss p q init (fun t ht => hrec t (by simp [ht])) hlen
  have hc := hrec z (by simp)
  refine PCall.intro' (ps := [sL (fnT ss init z)]) fn94 (by simp) fun hok => ?_
  have hss : (init ++ [z]).length ≤ 1099511627776 := by
    simp only [PV.okL, Ty.enc, PV.ok, encL_len, big] at hok; exact hok.2.1.2.2.1.1
  clear hok
  have hN : (((init ++ [z]).length : Nat) : Int) = (init.length : Int) + 1 := by simp
  have hw : IntKind.i64.wrap ((init.length : Int) + 1 - 1) = (init.length : Int) := by
    rw [IntWalk.i64_in _ (by simp at hss; omega)]; omega
  have htake : (encL (init ++ [z])).take init.length = encL init := by
    rw [encL_app, List.take_left' (by rw [encL_len])]
  have hat : (encL (init ++ [z]))[init.length]? = some z.enc := encL_at _ _ _
  have hle : init.length ≤ (init ++ [z]).length := by simp
  generalize hJ : Lib.join (fmL ss init) [44, 32] = J at hl hlen
  generalize hZ : fm ss z = Z at hc hzl
  have s1 := szle [102, 110, 40] J (by simp only [List.length_cons, List.length_nil]; omega)
  have s2 := szle ([102, 110, 40] ++ J) [41] (by simp only [List.length_append, List.length_cons, List.length_nil]; omega)
  have s3 := szle [32, 45, 62, 32] Z (by simp only [List.length_append, List.length_cons, List.length_nil]; omega)
  have s4 := szle ([102, 110, 40] ++ J ++ [41]) ([32, 45, 62, 32] ++ Z) (by simp only [List.length_append, List.length_cons, List.length_nil]; omega)
  simp only [go_sem] at s1 s2 s3 s4
  unfold ac94
  simp only [argFr, Nat.zero_add, Ty.enc]
  cases hz : (z.kd == 6) with
  | true =>
    have hz' : (z.kd != 6) = false := by simp only [bne, hz]; rfl
    (repeat' (first | ((first | (with_reducible refine aops_call fun C hC => ?_) | (with_reducible refine aopsD_call fun C hC => ?_) | ((with_reducible intro C hC); (with_reducible refine ax_call_mp ?_))); (first | (simp only [go_sem, encL_len, hN, hw, htake, hat, hle, Nat.zero_le, pcells_enc, cells_enc, Ty.tc, hz, hz', sadd, s1, s2]; (first | ((with_reducible apply ACall.pure0 [] (hl)); (focus (exact vwA)))))); (simp only [PV.scal, PV.scalL, if_true, Bool.and_true, Bool.and_false, Bool.false_and, Bool.true_and, frz, List.map_nil, Bool.false_eq_true, if_false, ite_self, encL_len, hN, hw, htake, hat, hle, Nat.zero_le, pcells_enc, cells_enc, Ty.tc, hz, hz', sadd, s1, s2]); (first | (with_reducible refine finA hC ?_); clear hC C | (with_reducible refine finD hC ?_); clear hC C)) | ((with_reducible refine aops_cons' fun C hC => ?_); simp only [go_sem, encL_len, hN, hw, htake, hat, hle, Nat.zero_le, pcells_enc, cells_enc, Ty.tc, hz, hz', sadd, s1, s2]; (with_reducible refine finA hC ?_); clear hC C) | ((with_reducible refine aopsD_cons' fun C hC => ?_); simp only [go_sem, encL_len, hN, hw, htake, hat, hle, Nat.zero_le, pcells_enc, cells_enc, Ty.tc, hz, hz', sadd, s1, s2]; (with_reducible refine finD hC ?_); clear hC C) | ((with_reducible refine awp_seq_k fun K hK => ?_)) | ((with_reducible refine awp_reg_k fun K hK => ?_)) | ((with_reducible refine awp_dreg_k fun K hK => ?_)) | ((with_reducible refine aops_nil ?_); (with_reducible refine hK _ _ ?_); try clear hK K) | ((with_reducible refine aopsD_nil ?_); (with_reducible refine hK _ _ _ ?_ ?_); (focus (kernel_rfl)); try clear hK K) | ((with_reducible refine thn_normal ?_); (with_reducible refine hK _ _ ?_); try clear hK K) | ((with_reducible refine catch_normal ?_)) | ((with_reducible refine awp_skip_k ?_)) | ((with_reducible refine awp_ret_k ?_)) | ((with_reducible refine awp_exit_k ?_)) | ((with_reducible refine awp_block_k ?_)) | ((with_reducible refine thn_exit ?_); try clear hK K) | ((with_reducible refine thn_ret ?_); try clear hK K) | ((with_reducible refine catch_ret ?_)) | ((with_reducible refine catch_exit ?_)) | ((with_reducible refine catch_other ?_ ?_); (focus (decide))) | ((with_reducible apply aops_guard'); (focus (simp only [go_sem, encL_len, hN, hw, htake, hat, hle, Nat.zero_le, pcells_enc, cells_enc, Ty.tc, hz, hz', sadd, s1, s2]; exact rfl))) | ((with_reducible apply aopsD_guard'); (focus (simp only [go_sem, encL_len, hN, hw, htake, hat, hle, Nat.zero_le, pcells_enc, cells_enc, Ty.tc, hz, hz', sadd, s1, s2]; exact rfl))) | (first | (with_reducible refine gk_tt ?_) | (with_reducible refine gk_ff ?_)) | ((with_reducible intro C hC); simp only [go_sem, encL_len, hN, hw, htake, hat, hle, Nat.zero_le, pcells_enc, cells_enc, Ty.tc, hz, hz', sadd, s1, s2]; (first | (with_reducible refine finA hC ?_); clear hC C | (with_reducible refine finD hC ?_); clear hC C)) | ((first | (with_reducible refine gk_tf ?_) | (with_reducible refine gk_ft ?_) | (with_reducible refine gk_u ?_) | (with_reducible refine gk_u' ?_)); first | (intro _ e; (first | rw [put_some] at e | rw [put_none] at e); subst e) | (intro _ _ e e'; (first | rw [put_some] at e | rw [put_none] at e); subst e; subst e')) | ((with_reducible apply awp_cond_g); (focus (simp only [go_sem, encL_len, hN, hw, htake, hat, hle, Nat.zero_le, pcells_enc, cells_enc, Ty.tc, hz, hz', sadd, s1, s2]; exact rfl))) | (with_reducible refine ck_t ?_) | (with_reducible refine ck_f ?_)))
    (refine retP_ret (List.range 40) rfl ?_; (try simp only [fnT, hz, hJ, hZ, if_true, if_false, Bool.false_eq_true, Bool.not_true, Bool.not_false]); exact vwA)
  | false =>
    have hz' : (z.kd != 6) = true := by simp only [bne, hz]; rfl
    (repeat' (first | ((first | (with_reducible refine aops_call fun C hC => ?_) | (with_reducible refine aopsD_call fun C hC => ?_) | ((with_reducible intro C hC); (with_reducible refine ax_call_mp ?_))); (first | (simp only [go_sem, encL_len, hN, hw, htake, hat, hle, Nat.zero_le, pcells_enc, cells_enc, Ty.tc, hz, hz', sadd, s1, s2, s3, s4]; (first | ((with_reducible apply ACall.pure0 [] (hl)); (focus (exact vwA))) | ((with_reducible apply ACall.pure0 [] (hc)); (focus (exact vwA)))))); (simp only [PV.scal, PV.scalL, if_true, Bool.and_true, Bool.and_false, Bool.false_and, Bool.true_and, frz, List.map_nil, Bool.false_eq_true, if_false, ite_self, encL_len, hN, hw, htake, hat, hle, Nat.zero_le, pcells_enc, cells_enc, Ty.tc, hz, hz', sadd, s1, s2, s3, s4]); (first | (with_reducible refine finA hC ?_); clear hC C | (with_reducible refine finD hC ?_); clear hC C)) | ((with_reducible refine aops_cons' fun C hC => ?_); simp only [go_sem, encL_len, hN, hw, htake, hat, hle, Nat.zero_le, pcells_enc, cells_enc, Ty.tc, hz, hz', sadd, s1, s2, s3, s4]; (with_reducible refine finA hC ?_); clear hC C) | ((with_reducible refine aopsD_cons' fun C hC => ?_); simp only [go_sem, encL_len, hN, hw, htake, hat, hle, Nat.zero_le, pcells_enc, cells_enc, Ty.tc, hz, hz', sadd, s1, s2, s3, s4]; (with_reducible refine finD hC ?_); clear hC C) | ((with_reducible refine awp_seq_k fun K hK => ?_)) | ((with_reducible refine awp_reg_k fun K hK => ?_)) | ((with_reducible refine awp_dreg_k fun K hK => ?_)) | ((with_reducible refine aops_nil ?_); (with_reducible refine hK _ _ ?_); try clear hK K) | ((with_reducible refine aopsD_nil ?_); (with_reducible refine hK _ _ _ ?_ ?_); (focus (kernel_rfl)); try clear hK K) | ((with_reducible refine thn_normal ?_); (with_reducible refine hK _ _ ?_); try clear hK K) | ((with_reducible refine catch_normal ?_)) | ((with_reducible refine awp_skip_k ?_)) | ((with_reducible refine awp_ret_k ?_)) | ((with_reducible refine awp_exit_k ?_)) | ((with_reducible refine awp_block_k ?_)) | ((with_reducible refine thn_exit ?_); try clear hK K) | ((with_reducible refine thn_ret ?_); try clear hK K) | ((with_reducible refine catch_ret ?_)) | ((with_reducible refine catch_exit ?_)) | ((with_reducible refine catch_other ?_ ?_); (focus (decide))) | ((with_reducible apply aops_guard'); (focus (simp only [go_sem, encL_len, hN, hw, htake, hat, hle, Nat.zero_le, pcells_enc, cells_enc, Ty.tc, hz, hz', sadd, s1, s2, s3, s4]; exact rfl))) | ((with_reducible apply aopsD_guard'); (focus (simp only [go_sem, encL_len, hN, hw, htake, hat, hle, Nat.zero_le, pcells_enc, cells_enc, Ty.tc, hz, hz', sadd, s1, s2, s3, s4]; exact rfl))) | (first | (with_reducible refine gk_tt ?_) | (with_reducible refine gk_ff ?_)) | ((with_reducible intro C hC); simp only [go_sem, encL_len, hN, hw, htake, hat, hle, Nat.zero_le, pcells_enc, cells_enc, Ty.tc, hz, hz', sadd, s1, s2, s3, s4]; (first | (with_reducible refine finA hC ?_); clear hC C | (with_reducible refine finD hC ?_); clear hC C)) | ((first | (with_reducible refine gk_tf ?_) | (with_reducible refine gk_ft ?_) | (with_reducible refine gk_u ?_) | (with_reducible refine gk_u' ?_)); first | (intro _ e; (first | rw [put_some] at e | rw [put_none] at e); subst e) | (intro _ _ e e'; (first | rw [put_some] at e | rw [put_none] at e); subst e; subst e')) | ((with_reducible apply awp_cond_g); (focus (simp only [go_sem, encL_len, hN, hw, htake, hat, hle, Nat.zero_le, pcells_enc, cells_enc, Ty.tc, hz, hz', sadd, s1, s2, s3, s4]; exact rfl))) | (with_reducible refine ck_t ?_) | (with_reducible refine ck_f ?_)))
    (refine retP_ret (List.range 40) rfl ?_; (try simp only [fnT, hz, hJ, hZ, if_true, if_false, Bool.false_eq_true, Bool.not_true, Bool.not_false]); exact vwA)
end Go.Proofs.Ytgphapkpoamcgaa
