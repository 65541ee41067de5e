/- T7: joined from S3 S6 S7 X1 V5. -/
import Derived.Test.YtbdoblgofddhdaaFnT
import Derived.Test.YtbdoblgofddhdaaT1
import Derived.Test.YtbdoblgofddhdaaT2
import Derived.Test.YtbdoblgofddhdaaT6
/- Types: Validate. -/
set_option maxRecDepth 10000
set_option linter.unusedSimpArgs false
set_option linter.unusedVariables false
namespace Go.Proofs.Ytbdoblgofddhdaa
open Go Go.Ab
def nwf (k id n : Int) : Bool :=
  if (if k == 0 then true else if k == 3 then true else if k == 4 then true else if k == 5 then true else k == 6) then (if id == 0 then n == 0 else false)
  else if (if k == 1 then true else k == 2) then (if decide (id ≥ 0) then n == 0 else false)
  else if k == 7 then decide (id ≥ 0)
  else if k == 8 then (if (if id == 0 then true else id == 1) then n == 1 else false)
  else if k == 9 then (if id == 0 then decide (n > 0) else false)
  else if k == 10 then (if decide (id ≥ 0) then n == 1 else false)
  else false
mutual
def wfT : Ty → Bool
  | .mk k id ss => if nwf k id ss.length then wfTL ss else false
def wfTL : List Ty → Bool
  | [] => true
  | t :: ts => if wfT t then wfTL ts else false
end
theorem wfTL_any : ∀ ss : List Ty, (ss.any fun a => !wfT a) = !wfTL ss
  | [] => rfl
  | t :: ts => by simp only [List.any_cons, wfTL, wfTL_any ts]; cases wfT t <;> simp
mutual
/-- size and depth, counted until the size passes L -/
def msr : Ty → Int → Int × Int
  | .mk _ _ ss, L => ((msrL ss L 1 0).1, (msrL ss L 1 0).2 + 1)
def msrL : List Ty → Int → Int → Int → Int × Int
  | [], _, s, d => (s, d)
  | t :: ts, L, s, d => if decide (s > L) then (s, d) else msrL ts L (s + (msr t (L - s)).1) (if (msr t (L - s)).2 > d then (msr t (L - s)).2 else d)
end
mutual
theorem msr_bd : ∀ (t : Ty) (L : Int), 0 ≤ L → 1 ≤ (msr t L).1 ∧ (msr t L).1 ≤ L + 1 ∧ 0 ≤ (msr t L).2 ∧ (msr t L).2 ≤ (msr t L).1
  | .mk k id ss, L, hL => by
    have := msrL_bd ss L 1 0 hL (by omega) (by omega) (by omega) (by omega)
    simp only [msr]; omega
theorem msrL_bd : ∀ (ts : List Ty) (L s d : Int), 0 ≤ L → 1 ≤ s → s ≤ L + 1 → 0 ≤ d → d < s → 1 ≤ (msrL ts L s d).1 ∧ (msrL ts L s d).1 ≤ L + 1 ∧ 0 ≤ (msrL ts L s d).2 ∧ (msrL ts L s d).2 < (msrL ts L s d).1
  | [], L, s, d, hL, h1, h2, h3, h4 => by simp only [msrL]; omega
  | t :: ts, L, s, d, hL, h1, h2, h3, h4 => by
    simp only [msrL]
    by_cases h : s > L
    · simp only [h, decide_true, if_true]; omega
    · simp only [h, decide_false, Bool.false_eq_true, if_false]
      have hb := msr_bd t (L - s) (by omega)
      refine msrL_bd ts L _ _ hL (by omega) (by omega) ?_ ?_ <;> split <;> omega
end
theorem w64 {n : Int} (h : -1000000 ≤ n ∧ n ≤ 1000000) : IntKind.i64.wrap n = n := by rw [IntWalk.i64_in _ (by omega)]
def valT (t : Ty) : Int := if (if decide ((msr t 100).1 > 100) then true else decide ((msr t 100).2 > 12)) then 2 else if !wfT t then 3 else 0
end Go.Proofs.Ytbdoblgofddhdaa
/- Lists of integers compared; the check that the operations work at all. -/
set_option maxRecDepth 10000
set_option linter.unusedSimpArgs false
set_option linter.unusedVariables false
namespace Go.Proofs.Ytbdoblgofddhdaa
open Go Go.Ab
def eqIL : List Int → List Int → Bool
  | [], [] => true
  | a :: xs, b :: ys => if a == b then eqIL xs ys else false
  | [], _ :: _ => false
  | _ :: _, [] => false
theorem eqIL_iff : ∀ a b : List Int, eqIL a b = true ↔ a = b
  | [], [] => by simp [eqIL]
  | a :: xs, b :: ys => by
    simp only [eqIL, List.cons.injEq]
    by_cases h : a = b
    · simp [h, eqIL_iff xs ys]
    · simp [h]
  | [], b :: ys => by simp [eqIL]
  | a :: xs, [] => by simp [eqIL]
theorem eqIL_len {xs ys : List Int} (h : ((xs.length : Int) != (ys.length : Int)) = true) : eqIL xs ys = false := by
  cases he : eqIL xs ys with
  | false => rfl
  | true => have := (eqIL_iff xs ys).1 he; subst this; simp at h
def exT : Ty := .mk 9 0 [.mk 1 3 [], .mk 7 7 [.mk 1 1 [], .mk 1 3 []]]
def exU : Ty := subT [⟨3, .mk 3 0 []⟩] exT
theorem exU_eq : exU = .mk 9 0 [.mk 3 0 [], .mk 7 7 [.mk 1 1 [], .mk 3 0 []]] := by rfl
theorem exV : valT exT = 0 := by rfl
theorem exF : fvs exT = [3, 1] := by rfl
theorem exF2 : fvs exU = [1] := by rfl
theorem exV2 : valT (.mk 8 2 [exT]) = 3 := by rfl
end Go.Proofs.Ytbdoblgofddhdaa
/- Variables of a type, substitution: the plain laws. -/
set_option linter.unusedSimpArgs false
set_option linter.unusedVariables false
namespace Go.Proofs.Ytbdoblgofddhdaa
open Go Go.Ab
mutual
def occ (x : Int) : Ty → Bool
  | .mk k id ss => (k == 1 && id == x) || occL x ss
def occL (x : Int) : List Ty → Bool
  | [] => false
  | t :: ts => occ x t || occL x ts
end
mutual
theorem mem_afv (x : Int) : ∀ (t : Ty) (xs : List Int), x ∈ afv t xs ↔ x ∈ xs ∨ occ x t = true
  | .mk k id ss, xs => by
    have hany : (xs.any fun y => id == y) = decide (id ∈ xs) := by
      by_cases hm : id ∈ xs
      · simp only [hm, decide_true, List.any_eq_true]; exact ⟨id, hm, by simp⟩
      · simp only [hm, decide_false, List.any_eq_false]; intro y hy e; exact hm ((beq_iff_eq.1 e) ▸ hy)
    simp only [afv, occ, mem_afvL x ss, hany]
    by_cases hk : k = 1
    · subst hk
      by_cases hx : id = x
      · subst hx
        by_cases hm : id ∈ xs
        · simp [hm]
        · simp [hm]
      · by_cases hm : id ∈ xs
        · simp [hm, hx]
        · have : ¬ x = id := fun e => hx e.symm
          simp [hm, hx, this]
    · simp [hk]
theorem mem_afvL (x : Int) : ∀ (ts : List Ty) (xs : List Int), x ∈ afvL ts xs ↔ x ∈ xs ∨ occL x ts = true
  | [], xs => by simp [afvL, occL]
  | t :: ts, xs => by simp only [afvL, occL, mem_afvL x ts, mem_afv x t, Bool.or_eq_true, or_assoc]
end
theorem mem_fvs (x : Int) (t : Ty) : x ∈ fvs t ↔ occ x t = true := by simp [fvs, mem_afv]
theorem any_fvs (x : Int) (t : Ty) : ((fvs t).any fun y => x == y) = occ x t := by
  by_cases h : occ x t = true
  · rw [h, List.any_eq_true]; exact ⟨x, (mem_fvs x t).2 h, by simp⟩
  · have h' : occ x t = false := by simpa using h
    rw [h', List.any_eq_false]
    intro y hy e
    have : x = y := by simpa using e
    subst this
    exact h ((mem_fvs x t).1 hy)
mutual
theorem sub_absent {s : List Bd} : ∀ (t : Ty), (∀ b ∈ s, occ b.v t = false) → subT s t = t
  | .mk k id ss, h => by
    have hg : subG s (.mk k id ss) = (.mk k id ss, false) := by
      unfold subG
      simp only [Ty.kd, Ty.id]
      by_cases hk : k = 1
      · have : findB s id = none := findB_none fun b hb => by
          have := h b hb
          simp only [occ, hk, beq_self_eq_true, Bool.true_and, Bool.or_eq_false_iff] at this
          have h2 := this.1
          simp only [beq_eq_false_iff_ne, ne_eq] at h2 ⊢
          exact fun e => h2 e.symm
        simp [hk, this]
      · simp [hk]
    simp only [subT, mapT, hg, Bool.false_eq_true, if_false]
    rw [sub_absentL ss fun b hb => by have := h b hb; simp only [occ, Bool.or_eq_false_iff] at this; exact this.2]
theorem sub_absentL {s : List Bd} : ∀ (ts : List Ty), (∀ b ∈ s, occL b.v ts = false) → mapTL (subG s) ts = ts
  | [], _ => rfl
  | t :: ts, h => by
    have h1 := sub_absent t fun b hb => by have := h b hb; simp only [occL, Bool.or_eq_false_iff] at this; exact this.1
    have h2 := sub_absentL ts fun b hb => by have := h b hb; simp only [occL, Bool.or_eq_false_iff] at this; exact this.2
    unfold subT at h1
    simp only [mapTL, h1, h2]
end
mutual
theorem occ_sub {v : Int} {r : Ty} {x : Int} : ∀ (t : Ty), occ x (subT [⟨v, r⟩] t) = true → occ x r = true ∨ (¬ x = v ∧ occ x t = true)
  | .mk k id ss, h => by
    by_cases hk : k = 1
    · by_cases hv : v = id
      · have hg : subG [⟨v, r⟩] (.mk k id ss) = (r, true) := by simp [subG, Ty.kd, Ty.id, hk, findB, hv]
        simp only [subT, mapT, hg, if_true] at h
        exact .inl h
      · have hg : subG [⟨v, r⟩] (.mk k id ss) = (.mk k id ss, false) := by simp [subG, Ty.kd, Ty.id, hk, findB, hv]
        simp only [subT, mapT, hg, Bool.false_eq_true, if_false, occ, Bool.or_eq_true, Bool.and_eq_true, beq_iff_eq] at h
        rcases h with ⟨_, e⟩ | h
        · exact .inr ⟨fun e' => hv (e'.symm.trans e.symm), by simp [occ, hk, e]⟩
        · rcases occ_subL ss h with h1 | ⟨h1, h2⟩
          · exact .inl h1
          · exact .inr ⟨h1, by simp [occ, h2]⟩
    · have hg : subG [⟨v, r⟩] (.mk k id ss) = (.mk k id ss, false) := by simp [subG, Ty.kd, hk]
      simp only [subT, mapT, hg, Bool.false_eq_true, if_false, occ, Bool.or_eq_true, Bool.and_eq_true, beq_iff_eq] at h
      rcases h with ⟨e, _⟩ | h
      · exact absurd e hk
      · rcases occ_subL ss h with h1 | ⟨h1, h2⟩
        · exact .inl h1
        · exact .inr ⟨h1, by simp [occ, h2]⟩
theorem occ_subL {v : Int} {r : Ty} {x : Int} : ∀ (ts : List Ty), occL x (mapTL (subG [⟨v, r⟩]) ts) = true → occ x r = true ∨ (¬ x = v ∧ occL x ts = true)
  | [], h => by simp [mapTL, occL] at h
  | t :: ts, h => by
    simp only [mapTL, occL, Bool.or_eq_true] at h
    rcases h with h | h
    · rcases occ_sub t h with h1 | ⟨h1, h2⟩
      · exact .inl h1
      · exact .inr ⟨h1, by simp [occL, h2]⟩
    · rcases occ_subL ts h with h1 | ⟨h1, h2⟩
      · exact .inl h1
      · exact .inr ⟨h1, by simp [occL, h2]⟩
end
/-- a ground type stays as it is -/
theorem sub_ground {s : List Bd} {a : Ty} (h : fvs a = []) : subT s a = a := sub_absent a fun b _ => by
  cases e : occ b.v a with
  | false => rfl
  | true => have := (mem_fvs b.v a).2 e; rw [h] at this; cases this
mutual
theorem sub_seq {x y : Int} {a b : Ty} (hxy : ¬ x = y) (ha : ∀ s, subT s a = a) : ∀ (t : Ty), subT [⟨y, b⟩] (subT [⟨x, a⟩] t) = subT [⟨x, a⟩, ⟨y, b⟩] t
  | .mk k id ss => by
    by_cases hk : k = 1
    · by_cases hx : x = id
      · have hg : subG [⟨x, a⟩] (.mk k id ss) = (a, true) := by simp [subG, Ty.kd, Ty.id, hk, findB, hx]
        have hg2 : subG [⟨x, a⟩, ⟨y, b⟩] (.mk k id ss) = (a, true) := by simp [subG, Ty.kd, Ty.id, hk, findB, hx]
        rw [show subT [⟨x, a⟩] (.mk k id ss) = a by simp only [subT, mapT, hg, if_true], show subT [⟨x, a⟩, ⟨y, b⟩] (.mk k id ss) = a by simp only [subT, mapT, hg2, if_true]]
        exact ha _
      · have hg : subG [⟨x, a⟩] (.mk k id ss) = (.mk k id ss, false) := by simp [subG, Ty.kd, Ty.id, hk, findB, hx]
        rw [show subT [⟨x, a⟩] (.mk k id ss) = .mk k id (mapTL (subG [⟨x, a⟩]) ss) by simp only [subT, mapT, hg, Bool.false_eq_true, if_false]]
        by_cases hy : y = id
        · have hg2 : subG [⟨y, b⟩] (.mk k id (mapTL (subG [⟨x, a⟩]) ss)) = (b, true) := by simp [subG, Ty.kd, Ty.id, hk, findB, hy]
          have hg3 : subG [⟨x, a⟩, ⟨y, b⟩] (.mk k id ss) = (b, true) := by simp [subG, Ty.kd, Ty.id, hk, findB, hy, hx]
          simp only [subT, mapT, hg2, hg3, if_true]
        · have hg2 : subG [⟨y, b⟩] (.mk k id (mapTL (subG [⟨x, a⟩]) ss)) = (.mk k id (mapTL (subG [⟨x, a⟩]) ss), false) := by simp [subG, Ty.kd, Ty.id, hk, findB, hy]
          have hg3 : subG [⟨x, a⟩, ⟨y, b⟩] (.mk k id ss) = (.mk k id ss, false) := by simp [subG, Ty.kd, Ty.id, hk, findB, hy, hx]
          simp only [subT, mapT, hg2, hg3, Bool.false_eq_true, if_false, sub_seqL hxy ha ss]
    · have hg : ∀ s ts, subG s (.mk k id ts) = (.mk k id ts, false) := fun s ts => by simp [subG, Ty.kd, hk]
      simp only [subT, mapT, hg, Bool.false_eq_true, if_false, sub_seqL hxy ha ss]
theorem sub_seqL {x y : Int} {a b : Ty} (hxy : ¬ x = y) (ha : ∀ s, subT s a = a) : ∀ (ts : List Ty), mapTL (subG [⟨y, b⟩]) (mapTL (subG [⟨x, a⟩]) ts) = mapTL (subG [⟨x, a⟩, ⟨y, b⟩]) ts
  | [] => rfl
  | t :: ts => by
    have h := sub_seq (b := b) hxy ha t
    unfold subT at h
    simp only [mapTL, h, sub_seqL hxy ha ts]
end
mutual
theorem sub_swap {x y : Int} {a b : Ty} (hxy : ¬ x = y) : ∀ (t : Ty), subT [⟨y, b⟩, ⟨x, a⟩] t = subT [⟨x, a⟩, ⟨y, b⟩] t
  | .mk k id ss => by
    have hg : subG [⟨y, b⟩, ⟨x, a⟩] (.mk k id ss) = subG [⟨x, a⟩, ⟨y, b⟩] (.mk k id ss) := by
      simp only [subG, Ty.kd, Ty.id, findB]
      by_cases hx : x = id
      · have : ¬ y = id := fun e => hxy (hx.trans e.symm)
        simp [hx, this]
      · simp [hx]
    simp only [subT, mapT, hg, sub_swapL hxy ss]
theorem sub_swapL {x y : Int} {a b : Ty} (hxy : ¬ x = y) : ∀ (ts : List Ty), mapTL (subG [⟨y, b⟩, ⟨x, a⟩]) ts = mapTL (subG [⟨x, a⟩, ⟨y, b⟩]) ts
  | [] => rfl
  | t :: ts => by
    have h := sub_swap (a := a) (b := b) hxy t
    unfold subT at h
    simp only [mapTL, h, sub_swapL hxy ts]
end
/-! ### sizes -/
mutual
def nds : Ty → Nat
  | .mk _ _ ss => ndsL ss + 1
def ndsL : List Ty → Nat
  | [] => 0
  | t :: ts => nds t + ndsL ts
end
theorem nds_pos (t : Ty) : 1 ≤ nds t := by cases t; simp [nds]
mutual
theorem afv_len : ∀ (t : Ty) (xs : List Int), (afv t xs).length ≤ xs.length + nds t
  | .mk k id ss, xs => by
    simp only [afv, nds]
    refine Nat.le_trans (afvL_len ss _) ?_
    by_cases h : (if k == 1 then !(xs.any fun x => id == x) else false) = true
    · rw [if_pos h]; simp; omega
    · rw [if_neg h]; omega
theorem afvL_len : ∀ (ts : List Ty) (xs : List Int), (afvL ts xs).length ≤ xs.length + ndsL ts
  | [], xs => by simp [afvL, ndsL]
  | t :: ts, xs => by
    have h1 := afvL_len ts (afv t xs)
    have h2 := afv_len t xs
    simp only [afvL, ndsL]; omega
end
theorem fvs_len (t : Ty) : (fvs t).length ≤ nds t := by have := afv_len t []; simpa [fvs] using this
mutual
theorem nds_sub {s : List Bd} {m : Nat} (hm : 1 ≤ m) (h : ∀ b ∈ s, nds b.t ≤ m) : ∀ (t : Ty), nds (subT s t) ≤ nds t * m
  | .mk k id ss => by
    have hL := nds_subL hm h ss
    have hkeep : nds (.mk k id (mapTL (subG s) ss)) ≤ nds (.mk k id ss) * m := by
      simp only [nds, Nat.add_mul]; omega
    have hget : ∀ {bs : List Bd} {r : Ty}, (∀ b ∈ bs, nds b.t ≤ m) → findB bs id = some r → nds r ≤ m := by
      intro bs
      induction bs with
      | nil => intro r _ e; simp [findB] at e
      | cons b bs ih =>
        intro r hb e
        simp only [findB] at e
        split at e
        · cases e; exact hb b (by simp)
        · exact ih (fun c hc => hb c (by simp [hc])) e
    by_cases hk : k = 1
    · cases hf : findB s id with
      | none =>
        have hg : subG s (.mk k id ss) = (.mk k id ss, false) := by simp [subG, Ty.kd, Ty.id, hk, hf]
        simp only [subT, mapT, hg, Bool.false_eq_true, if_false]; exact hkeep
      | some r =>
        have hg : subG s (.mk k id ss) = (r, true) := by simp [subG, Ty.kd, Ty.id, hk, hf]
        simp only [subT, mapT, hg, if_true]
        have h1 := hget h hf
        have h2 := nds_pos (.mk k id ss)
        exact Nat.le_trans h1 (Nat.le_mul_of_pos_left m h2)
    · have hg : subG s (.mk k id ss) = (.mk k id ss, false) := by simp [subG, Ty.kd, hk]
      simp only [subT, mapT, hg, Bool.false_eq_true, if_false]; exact hkeep
theorem nds_subL {s : List Bd} {m : Nat} (hm : 1 ≤ m) (h : ∀ b ∈ s, nds b.t ≤ m) : ∀ (ts : List Ty), ndsL (mapTL (subG s) ts) ≤ ndsL ts * m
  | [] => by simp [mapTL, ndsL]
  | t :: ts => by
    have h1 := nds_sub hm h t
    have h2 := nds_subL hm h ts
    unfold subT at h1
    simp only [mapTL, ndsL, Nat.add_mul]; omega
end
end Go.Proofs.Ytbdoblgofddhdaa
/- The reference's operations on types: the check that they work, equality, size. -/
set_option maxRecDepth 10000
set_option linter.unusedSimpArgs false
set_option linter.unusedVariables false
namespace Go.Proofs.Ytbdoblgofddhdaa
open Go Go.Ab
theorem typ2_ok (k id : Int) (ss : List Ty) : PCall Try.prog 81 [ii k, ii id, .list 3 (encL ss)] (Ty.mk k id ss).enc := by
  refine PCall.intro (ps := [(Ty.mk k id ss).enc]) fn81 (by simp) ?_
  unfold ac81
  simp only [argFr]
  (repeat' (first | ((with_reducible refine aops_cons' fun C hC => ?_); simp only [go_sem, cells_enc, tc_len, enc_eq]; (with_reducible refine finA hC ?_); clear hC C) | ((with_reducible refine aopsD_cons' fun C hC => ?_); simp only [go_sem, cells_enc, tc_len, enc_eq]; (with_reducible refine finD hC ?_); clear hC C) | ((with_reducible refine awp_seq_k fun K hK => ?_)) | ((with_reducible refine awp_reg_k fun K hK => ?_)) | ((with_reducible refine awp_dreg_k fun K hK => ?_)) | ((with_reducible refine aops_nil ?_); (with_reducible refine hK _ _ ?_); try clear hK K) | ((with_reducible refine aopsD_nil ?_); (with_reducible refine hK _ _ _ ?_ ?_); (focus (kernel_rfl)); try clear hK K) | ((with_reducible refine thn_normal ?_); (with_reducible refine hK _ _ ?_); try clear hK K) | ((with_reducible refine catch_normal ?_)) | ((with_reducible refine awp_skip_k ?_)) | ((with_reducible refine awp_ret_k ?_)) | ((with_reducible refine awp_exit_k ?_)) | ((with_reducible refine awp_block_k ?_)) | ((with_reducible refine thn_exit ?_); try clear hK K) | ((with_reducible refine thn_ret ?_); try clear hK K) | ((with_reducible refine catch_ret ?_)) | ((with_reducible refine catch_exit ?_)) | ((with_reducible refine catch_other ?_ ?_); (focus (decide))) | ((with_reducible apply aops_guard'); (focus (simp only [go_sem, cells_enc, tc_len, enc_eq]; exact rfl))) | ((with_reducible apply aopsD_guard'); (focus (simp only [go_sem, cells_enc, tc_len, enc_eq]; exact rfl))) | (first | (with_reducible refine gk_tt ?_) | (with_reducible refine gk_ff ?_)) | ((with_reducible intro C hC); simp only [go_sem, cells_enc, tc_len, enc_eq]; (first | (with_reducible refine finA hC ?_); clear hC C | (with_reducible refine finD hC ?_); clear hC C)) | ((first | (with_reducible refine gk_tf ?_) | (with_reducible refine gk_ft ?_) | (with_reducible refine gk_u ?_) | (with_reducible refine gk_u' ?_)); first | (intro _ e; (first | rw [put_some] at e | rw [put_none] at e); subst e) | (intro _ _ e e'; (first | rw [put_some] at e | rw [put_none] at e); subst e; subst e')) | ((with_reducible apply awp_cond_g); (focus (simp only [go_sem, cells_enc, tc_len, enc_eq]; exact rfl))) | (with_reducible refine ck_t ?_) | (with_reducible refine ck_f ?_)))
  (refine retP_ret (List.range 40) rfl ?_; (try simp only [Ty.enc, if_true, if_false, Bool.false_eq_true, Bool.not_true, Bool.not_false]); exact vwA)
theorem tint2_ok : PCall Try.prog 82 [] (Ty.mk 3 0 []).enc := by
  refine PCall.intro (ps := [(Ty.mk 3 0 []).enc]) fn82 (by simp) ?_
  unfold ac82
  simp only [argFr]
  (repeat' (first | ((first | (with_reducible refine aops_call fun C hC => ?_) | (with_reducible refine aopsD_call fun C hC => ?_) | ((with_reducible intro C hC); (with_reducible refine ax_call_mp ?_))); (first | (simp only [go_sem, cells_enc, tc_len, Ty.tc]; (first | ((with_reducible apply ACall.pure0 [] (typ2_ok 3 0 [])); (focus (exact vwA)))))); (simp only [PV.scal, PV.scalL, if_true, Bool.and_true, Bool.and_false, Bool.false_and, Bool.true_and, frz, List.map_nil, Bool.false_eq_true, if_false, ite_self, cells_enc, tc_len, Ty.tc]); (first | (with_reducible refine finA hC ?_); clear hC C | (with_reducible refine finD hC ?_); clear hC C)) | ((with_reducible refine aops_cons' fun C hC => ?_); simp only [go_sem, cells_enc, tc_len, Ty.tc]; (with_reducible refine finA hC ?_); clear hC C) | ((with_reducible refine aopsD_cons' fun C hC => ?_); simp only [go_sem, cells_enc, tc_len, Ty.tc]; (with_reducible refine finD hC ?_); clear hC C) | ((with_reducible refine awp_seq_k fun K hK => ?_)) | ((with_reducible refine awp_reg_k fun K hK => ?_)) | ((with_reducible refine awp_dreg_k fun K hK => ?_)) | ((with_reducible refine aops_nil ?_); (with_reducible refine hK _ _ ?_); try clear hK K) | ((with_reducible refine aopsD_nil ?_); (with_reducible refine hK _ _ _ ?_ ?_); (focus (kernel_rfl)); try clear hK K) | ((with_reducible refine thn_normal ?_); (with_reducible refine hK _ _ ?_); try clear hK K) | ((with_reducible refine catch_normal ?_)) | ((with_reducible refine awp_skip_k ?_)) | ((with_reducible refine awp_ret_k ?_)) | ((with_reducible refine awp_exit_k ?_)) | ((with_reducible refine awp_block_k ?_)) | ((with_reducible refine thn_exit ?_); try clear hK K) | ((with_reducible refine thn_ret ?_); try clear hK K) | ((with_reducible refine catch_ret ?_)) | ((with_reducible refine catch_exit ?_)) | ((with_reducible refine catch_other ?_ ?_); (focus (decide))) | ((with_reducible apply aops_guard'); (focus (simp only [go_sem, cells_enc, tc_len, Ty.tc]; exact rfl))) | ((with_reducible apply aopsD_guard'); (focus (simp only [go_sem, cells_enc, tc_len, Ty.tc]; exact rfl))) | (first | (with_reducible refine gk_tt ?_) | (with_reducible refine gk_ff ?_)) | ((with_reducible intro C hC); simp only [go_sem, cells_enc, tc_len, Ty.tc]; (first | (with_reducible refine finA hC ?_); clear hC C | (with_reducible refine finD hC ?_); clear hC C)) | ((first | (with_reducible refine gk_tf ?_) | (with_reducible refine gk_ft ?_) | (with_reducible refine gk_u ?_) | (with_reducible refine gk_u' ?_)); first | (intro _ e; (first | rw [put_some] at e | rw [put_none] at e); subst e) | (intro _ _ e e'; (first | rw [put_some] at e | rw [put_none] at e); subst e; subst e')) | ((with_reducible apply awp_cond_g); (focus (simp only [go_sem, cells_enc, tc_len, Ty.tc]; exact rfl))) | (with_reducible refine ck_t ?_) | (with_reducible refine ck_f ?_)))
  (refine retP_ret (List.range 40) rfl ?_; exact vwA)
def inR (v lo hi : Int) : Bool := if decide (lo ≤ v) then decide (v ≤ hi) else false
set_option maxHeartbeats 4000000 in
theorem equal2_ok : ∀ a b : Ty, PCall Try.prog 35 [a.enc, b.enc] (bb (eqT a b))
  | .mk k i ss, .mk k' i' us => by
    have hrec : ∀ t ∈ ss, ∀ u, PCall Try.prog 35 [t.enc, u.enc] (bb (eqT t u)) := fun t ht u => equal2_ok t u
    refine PCall.intro' (ps := [bb (eqT (.mk k i ss) (.mk k' i' us))]) fn35 (by simp) fun hok => ?_
    have hss : ss.length ≤ 1099511627776 := by
      simp only [PV.okL, Ty.enc, PV.ok, encL_len, big] at hok; exact hok.1.2.2.1.1
    clear hok
    have he0 := eqT_eq (.mk k i ss) (.mk k' i' us)
    have he : eqT (.mk k i ss) (.mk k' i' us) = if k == k' then if i == i' then eqTL ss us else false else false := he0
    rw [he]
    clear he he0
    unfold ac35
    simp only [argFr]
    cases h1 : (k == k') with
    | false =>
      (repeat' (first | ((with_reducible refine aops_cons' fun C hC => ?_); simp only [go_sem, cells_enc, Ty.tc, Ty.kd, Ty.id, Ty.args, bne, h1, encL_len]; (with_reducible refine finA hC ?_); clear hC C) | ((with_reducible refine aopsD_cons' fun C hC => ?_); simp only [go_sem, cells_enc, Ty.tc, Ty.kd, Ty.id, Ty.args, bne, h1, encL_len]; (with_reducible refine finD hC ?_); clear hC C) | ((with_reducible refine awp_seq_k fun K hK => ?_)) | ((with_reducible refine awp_reg_k fun K hK => ?_)) | ((with_reducible refine awp_dreg_k fun K hK => ?_)) | ((with_reducible refine aops_nil ?_); (with_reducible refine hK _ _ ?_); try clear hK K) | ((with_reducible refine aopsD_nil ?_); (with_reducible refine hK _ _ _ ?_ ?_); (focus (kernel_rfl)); try clear hK K) | ((with_reducible refine thn_normal ?_); (with_reducible refine hK _ _ ?_); try clear hK K) | ((with_reducible refine catch_normal ?_)) | ((with_reducible refine awp_skip_k ?_)) | ((with_reducible refine awp_ret_k ?_)) | ((with_reducible refine awp_exit_k ?_)) | ((with_reducible refine awp_block_k ?_)) | ((with_reducible refine thn_exit ?_); try clear hK K) | ((with_reducible refine thn_ret ?_); try clear hK K) | ((with_reducible refine catch_ret ?_)) | ((with_reducible refine catch_exit ?_)) | ((with_reducible refine catch_other ?_ ?_); (focus (decide))) | ((with_reducible apply aops_guard'); (focus (simp only [go_sem, cells_enc, Ty.tc, Ty.kd, Ty.id, Ty.args, bne, h1, encL_len]; exact rfl))) | ((with_reducible apply aopsD_guard'); (focus (simp only [go_sem, cells_enc, Ty.tc, Ty.kd, Ty.id, Ty.args, bne, h1, encL_len]; exact rfl))) | (first | (with_reducible refine gk_tt ?_) | (with_reducible refine gk_ff ?_)) | ((with_reducible intro C hC); simp only [go_sem, cells_enc, Ty.tc, Ty.kd, Ty.id, Ty.args, bne, h1, encL_len]; (first | (with_reducible refine finA hC ?_); clear hC C | (with_reducible refine finD hC ?_); clear hC C)) | ((first | (with_reducible refine gk_tf ?_) | (with_reducible refine gk_ft ?_) | (with_reducible refine gk_u ?_) | (with_reducible refine gk_u' ?_)); first | (intro _ e; (first | rw [put_some] at e | rw [put_none] at e); subst e) | (intro _ _ e e'; (first | rw [put_some] at e | rw [put_none] at e); subst e; subst e')) | ((with_reducible apply awp_cond_g); (focus (simp only [go_sem, cells_enc, Ty.tc, Ty.kd, Ty.id, Ty.args, bne, h1, encL_len]; exact rfl))) | (with_reducible refine ck_t ?_) | (with_reducible refine ck_f ?_)))
      (refine retP_ret (List.range 40) rfl ?_; exact vwA)
    | true =>
    cases h2 : (i == i') with
    | false =>
      (repeat' (first | ((with_reducible refine aops_cons' fun C hC => ?_); simp only [go_sem, cells_enc, Ty.tc, Ty.kd, Ty.id, Ty.args, bne, h1, h2, encL_len]; (with_reducible refine finA hC ?_); clear hC C) | ((with_reducible refine aopsD_cons' fun C hC => ?_); simp only [go_sem, cells_enc, Ty.tc, Ty.kd, Ty.id, Ty.args, bne, h1, h2, encL_len]; (with_reducible refine finD hC ?_); clear hC C) | ((with_reducible refine awp_seq_k fun K hK => ?_)) | ((with_reducible refine awp_reg_k fun K hK => ?_)) | ((with_reducible refine awp_dreg_k fun K hK => ?_)) | ((with_reducible refine aops_nil ?_); (with_reducible refine hK _ _ ?_); try clear hK K) | ((with_reducible refine aopsD_nil ?_); (with_reducible refine hK _ _ _ ?_ ?_); (focus (kernel_rfl)); try clear hK K) | ((with_reducible refine thn_normal ?_); (with_reducible refine hK _ _ ?_); try clear hK K) | ((with_reducible refine catch_normal ?_)) | ((with_reducible refine awp_skip_k ?_)) | ((with_reducible refine awp_ret_k ?_)) | ((with_reducible refine awp_exit_k ?_)) | ((with_reducible refine awp_block_k ?_)) | ((with_reducible refine thn_exit ?_); try clear hK K) | ((with_reducible refine thn_ret ?_); try clear hK K) | ((with_reducible refine catch_ret ?_)) | ((with_reducible refine catch_exit ?_)) | ((with_reducible refine catch_other ?_ ?_); (focus (decide))) | ((with_reducible apply aops_guard'); (focus (simp only [go_sem, cells_enc, Ty.tc, Ty.kd, Ty.id, Ty.args, bne, h1, h2, encL_len]; exact rfl))) | ((with_reducible apply aopsD_guard'); (focus (simp only [go_sem, cells_enc, Ty.tc, Ty.kd, Ty.id, Ty.args, bne, h1, h2, encL_len]; exact rfl))) | (first | (with_reducible refine gk_tt ?_) | (with_reducible refine gk_ff ?_)) | ((with_reducible intro C hC); simp only [go_sem, cells_enc, Ty.tc, Ty.kd, Ty.id, Ty.args, bne, h1, h2, encL_len]; (first | (with_reducible refine finA hC ?_); clear hC C | (with_reducible refine finD hC ?_); clear hC C)) | ((first | (with_reducible refine gk_tf ?_) | (with_reducible refine gk_ft ?_) | (with_reducible refine gk_u ?_) | (with_reducible refine gk_u' ?_)); first | (intro _ e; (first | rw [put_some] at e | rw [put_none] at e); subst e) | (intro _ _ e e'; (first | rw [put_some] at e | rw [put_none] at e); subst e; subst e')) | ((with_reducible apply awp_cond_g); (focus (simp only [go_sem, cells_enc, Ty.tc, Ty.kd, Ty.id, Ty.args, bne, h1, h2, encL_len]; exact rfl))) | (with_reducible refine ck_t ?_) | (with_reducible refine ck_f ?_)))
      (refine retP_ret (List.range 40) rfl ?_; exact vwA)
    | true =>
    cases hlen : ((ss.length : Int) == (us.length : Int)) with
    | false =>
      have hl := eqTL_len (xs := ss) (ys := us) (by simp only [bne, hlen, Bool.not_false])
      (repeat' (first | ((with_reducible refine aops_cons' fun C hC => ?_); simp only [go_sem, cells_enc, Ty.tc, Ty.kd, Ty.id, Ty.args, bne, h1, h2, encL_len, hlen]; (with_reducible refine finA hC ?_); clear hC C) | ((with_reducible refine aopsD_cons' fun C hC => ?_); simp only [go_sem, cells_enc, Ty.tc, Ty.kd, Ty.id, Ty.args, bne, h1, h2, encL_len, hlen]; (with_reducible refine finD hC ?_); clear hC C) | ((with_reducible refine awp_seq_k fun K hK => ?_)) | ((with_reducible refine awp_reg_k fun K hK => ?_)) | ((with_reducible refine awp_dreg_k fun K hK => ?_)) | ((with_reducible refine aops_nil ?_); (with_reducible refine hK _ _ ?_); try clear hK K) | ((with_reducible refine aopsD_nil ?_); (with_reducible refine hK _ _ _ ?_ ?_); (focus (kernel_rfl)); try clear hK K) | ((with_reducible refine thn_normal ?_); (with_reducible refine hK _ _ ?_); try clear hK K) | ((with_reducible refine catch_normal ?_)) | ((with_reducible refine awp_skip_k ?_)) | ((with_reducible refine awp_ret_k ?_)) | ((with_reducible refine awp_exit_k ?_)) | ((with_reducible refine awp_block_k ?_)) | ((with_reducible refine thn_exit ?_); try clear hK K) | ((with_reducible refine thn_ret ?_); try clear hK K) | ((with_reducible refine catch_ret ?_)) | ((with_reducible refine catch_exit ?_)) | ((with_reducible refine catch_other ?_ ?_); (focus (decide))) | ((with_reducible apply aops_guard'); (focus (simp only [go_sem, cells_enc, Ty.tc, Ty.kd, Ty.id, Ty.args, bne, h1, h2, encL_len, hlen]; exact rfl))) | ((with_reducible apply aopsD_guard'); (focus (simp only [go_sem, cells_enc, Ty.tc, Ty.kd, Ty.id, Ty.args, bne, h1, h2, encL_len, hlen]; exact rfl))) | (first | (with_reducible refine gk_tt ?_) | (with_reducible refine gk_ff ?_)) | ((with_reducible intro C hC); simp only [go_sem, cells_enc, Ty.tc, Ty.kd, Ty.id, Ty.args, bne, h1, h2, encL_len, hlen]; (first | (with_reducible refine finA hC ?_); clear hC C | (with_reducible refine finD hC ?_); clear hC C)) | ((first | (with_reducible refine gk_tf ?_) | (with_reducible refine gk_ft ?_) | (with_reducible refine gk_u ?_) | (with_reducible refine gk_u' ?_)); first | (intro _ e; (first | rw [put_some] at e | rw [put_none] at e); subst e) | (intro _ _ e e'; (first | rw [put_some] at e | rw [put_none] at e); subst e; subst e')) | ((with_reducible apply awp_cond_g); (focus (simp only [go_sem, cells_enc, Ty.tc, Ty.kd, Ty.id, Ty.args, bne, h1, h2, encL_len, hlen]; exact rfl))) | (with_reducible refine ck_t ?_) | (with_reducible refine ck_f ?_)))
      (refine retP_ret (List.range 40) rfl ?_; (try simp only [hl, if_true, if_false, Bool.false_eq_true, Bool.not_true, Bool.not_false]); exact vwA)
    | true =>
      have hl : ss.length = us.length := by
        have : (ss.length : Int) = us.length := by simpa using hlen
        omega
      (repeat' (first | ((with_reducible refine aops_cons' fun C hC => ?_); simp only [go_sem, cells_enc, Ty.tc, Ty.kd, Ty.id, Ty.args, bne, h1, h2, encL_len, hlen]; (with_reducible refine finA hC ?_); clear hC C) | ((with_reducible refine aopsD_cons' fun C hC => ?_); simp only [go_sem, cells_enc, Ty.tc, Ty.kd, Ty.id, Ty.args, bne, h1, h2, encL_len, hlen]; (with_reducible refine finD hC ?_); clear hC C) | ((with_reducible refine awp_seq_k fun K hK => ?_)) | ((with_reducible refine awp_reg_k fun K hK => ?_)) | ((with_reducible refine awp_dreg_k fun K hK => ?_)) | ((with_reducible refine aops_nil ?_); (with_reducible refine hK _ _ ?_); try clear hK K) | ((with_reducible refine aopsD_nil ?_); (with_reducible refine hK _ _ _ ?_ ?_); (focus (kernel_rfl)); try clear hK K) | ((with_reducible refine thn_normal ?_); (with_reducible refine hK _ _ ?_); try clear hK K) | ((with_reducible refine catch_normal ?_)) | ((with_reducible refine awp_skip_k ?_)) | ((with_reducible refine awp_ret_k ?_)) | ((with_reducible refine awp_exit_k ?_)) | ((with_reducible refine awp_block_k ?_)) | ((with_reducible refine thn_exit ?_); try clear hK K) | ((with_reducible refine thn_ret ?_); try clear hK K) | ((with_reducible refine catch_ret ?_)) | ((with_reducible refine catch_exit ?_)) | ((with_reducible refine catch_other ?_ ?_); (focus (decide))) | ((with_reducible apply aops_guard'); (focus (simp only [go_sem, cells_enc, Ty.tc, Ty.kd, Ty.id, Ty.args, bne, h1, h2, encL_len, hlen]; exact rfl))) | ((with_reducible apply aopsD_guard'); (focus (simp only [go_sem, cells_enc, Ty.tc, Ty.kd, Ty.id, Ty.args, bne, h1, h2, encL_len, hlen]; exact rfl))) | (first | (with_reducible refine gk_tt ?_) | (with_reducible refine gk_ff ?_)) | ((with_reducible intro C hC); simp only [go_sem, cells_enc, Ty.tc, Ty.kd, Ty.id, Ty.args, bne, h1, h2, encL_len, hlen]; (first | (with_reducible refine finA hC ?_); clear hC C | (with_reducible refine finD hC ?_); clear hC C)) | ((first | (with_reducible refine gk_tf ?_) | (with_reducible refine gk_ft ?_) | (with_reducible refine gk_u ?_) | (with_reducible refine gk_u' ?_)); first | (intro _ e; (first | rw [put_some] at e | rw [put_none] at e); subst e) | (intro _ _ e e'; (first | rw [put_some] at e | rw [put_none] at e); subst e; subst e')) | ((with_reducible apply awp_cond_g); (focus (simp only [go_sem, cells_enc, Ty.tc, Ty.kd, Ty.id, Ty.args, bne, h1, h2, encL_len, hlen]; exact rfl))) | (with_reducible refine ck_t ?_) | (with_reducible refine ck_f ?_)))
      simp only [if_true]
      have rows : ∀ (rest rest' pre pre' : List Ty), pre ++ rest = ss → pre' ++ rest' = us → pre.length = pre'.length → eqTL ss us = eqTL rest rest' → loopN (awp Try.prog ac35_l0) (catch_ 0 (thn K (retP [RV.tmp 4] [bb (eqTL ss us)]))) (rest.length + 1)
         [(30, .pv (ii pre.length)), (29, .pv (ii ss.length)), (3, .ptr 1 0 0), (2, .ptr 0 0 0)]
         [some ⟨false, 26, 3, [[.pv (ii k), .pv (ii i), .pv (.list 3 (encL ss))]], none⟩, some ⟨false, 26, 3, [[.pv (ii k'), .pv (ii i'), .pv (.list 3 (encL us))]], none⟩] := by
        intro rest
        induction rest with
        | nil =>
          intro rest' pre pre' hpre hpre' hll he
          have hpre : pre = ss := by simpa using hpre
          have hr : rest' = [] := by
            have h1 := congrArg List.length hpre'
            simp only [List.length_append] at h1
            subst hpre
            exact List.eq_nil_of_length_eq_zero (by omega)
          subst hpre; subst hr
          refine loopN_k fun K1 hK1 => ?_
          unfold ac35_l0
          (repeat' (first | ((with_reducible refine aops_cons' fun C hC => ?_); simp only [go_sem, lt_end]; (with_reducible refine finA hC ?_); clear hC C) | ((with_reducible refine aopsD_cons' fun C hC => ?_); simp only [go_sem, lt_end]; (with_reducible refine finD hC ?_); clear hC C) | ((with_reducible refine awp_seq_k fun K hK => ?_)) | ((with_reducible refine awp_reg_k fun K hK => ?_)) | ((with_reducible refine awp_dreg_k fun K hK => ?_)) | ((with_reducible refine aops_nil ?_); (with_reducible refine hK _ _ ?_); try clear hK K) | ((with_reducible refine aopsD_nil ?_); (with_reducible refine hK _ _ _ ?_ ?_); (focus (kernel_rfl)); try clear hK K) | ((with_reducible refine thn_normal ?_); (with_reducible refine hK _ _ ?_); try clear hK K) | ((with_reducible refine catch_normal ?_)) | ((with_reducible refine awp_skip_k ?_)) | ((with_reducible refine awp_ret_k ?_)) | ((with_reducible refine awp_exit_k ?_)) | ((with_reducible refine awp_block_k ?_)) | ((with_reducible refine thn_exit ?_); try clear hK K) | ((with_reducible refine thn_ret ?_); try clear hK K) | ((with_reducible refine catch_ret ?_)) | ((with_reducible refine catch_exit ?_)) | ((with_reducible refine catch_other ?_ ?_); (focus (decide))) | ((with_reducible apply aops_guard'); (focus (simp only [go_sem, lt_end]; exact rfl))) | ((with_reducible apply aopsD_guard'); (focus (simp only [go_sem, lt_end]; exact rfl))) | (first | (with_reducible refine gk_tt ?_) | (with_reducible refine gk_ff ?_)) | ((with_reducible intro C hC); simp only [go_sem, lt_end]; (first | (with_reducible refine finA hC ?_); clear hC C | (with_reducible refine finD hC ?_); clear hC C)) | ((first | (with_reducible refine gk_tf ?_) | (with_reducible refine gk_ft ?_) | (with_reducible refine gk_u ?_) | (with_reducible refine gk_u' ?_)); first | (intro _ e; (first | rw [put_some] at e | rw [put_none] at e); subst e) | (intro _ _ e e'; (first | rw [put_some] at e | rw [put_none] at e); subst e; subst e')) | ((with_reducible apply awp_cond_g); (focus (simp only [go_sem, lt_end]; exact rfl))) | (with_reducible refine ck_t ?_) | (with_reducible refine ck_f ?_)))
          rw [he]
          (refine retP_ret (List.range 40) rfl ?_; (try simp only [eqTL, if_true, if_false, Bool.false_eq_true, Bool.not_true, Bool.not_false]); exact vwA)
        | cons t rest ih =>
          intro rest' pre pre' hpre hpre' hll he
          cases rest' with
          | nil =>
            have h1 := congrArg List.length hpre
            have h2 := congrArg List.length hpre'
            simp at h1 h2; omega
          | cons u rest' =>
          have hlt : decide ((pre.length : Int) < (ss.length : Int)) = true := by subst hpre; exact lt_app _ _ _
          have hat : (encL ss)[pre.length]? = some t.enc := by subst hpre; exact encL_at _ _ _
          have hat' : (encL us)[pre.length]? = some u.enc := by rw [hll]; subst hpre'; exact encL_at _ _ _
          have hb : pre.length + 1 ≤ big := by have := congrArg List.length hpre; simp at this; unfold big; omega
          have hc := hrec t (by subst hpre; simp) u
          refine loopN_k fun K1 hK1 => ?_
          unfold ac35_l0
          cases hpt : eqT t u with
          | false =>
            rw [hpt] at hc
            (repeat' (first | ((first | (with_reducible refine aops_call fun C hC => ?_) | (with_reducible refine aopsD_call fun C hC => ?_) | ((with_reducible intro C hC); (with_reducible refine ax_call_mp ?_))); (first | (simp only [go_sem, hlt, hat, hat', cells_enc, pcells_enc, Ty.tc]; (first | ((with_reducible apply ACall.pure0 [] (hc)); (focus (exact vwA)))))); (simp only [PV.scal, PV.scalL, if_true, Bool.and_true, Bool.and_false, Bool.false_and, Bool.true_and, frz, List.map_nil, Bool.false_eq_true, if_false, ite_self, hlt, hat, hat', cells_enc, pcells_enc, Ty.tc]); (first | (with_reducible refine finA hC ?_); clear hC C | (with_reducible refine finD hC ?_); clear hC C)) | ((with_reducible refine aops_cons' fun C hC => ?_); simp only [go_sem, hlt, hat, hat', cells_enc, pcells_enc, Ty.tc]; (with_reducible refine finA hC ?_); clear hC C) | ((with_reducible refine aopsD_cons' fun C hC => ?_); simp only [go_sem, hlt, hat, hat', cells_enc, pcells_enc, Ty.tc]; (with_reducible refine finD hC ?_); clear hC C) | ((with_reducible refine awp_seq_k fun K hK => ?_)) | ((with_reducible refine awp_reg_k fun K hK => ?_)) | ((with_reducible refine awp_dreg_k fun K hK => ?_)) | ((with_reducible refine aops_nil ?_); (with_reducible refine hK _ _ ?_); try clear hK K) | ((with_reducible refine aopsD_nil ?_); (with_reducible refine hK _ _ _ ?_ ?_); (focus (kernel_rfl)); try clear hK K) | ((with_reducible refine thn_normal ?_); (with_reducible refine hK _ _ ?_); try clear hK K) | ((with_reducible refine catch_normal ?_)) | ((with_reducible refine awp_skip_k ?_)) | ((with_reducible refine awp_ret_k ?_)) | ((with_reducible refine awp_exit_k ?_)) | ((with_reducible refine awp_block_k ?_)) | ((with_reducible refine thn_exit ?_); try clear hK K) | ((with_reducible refine thn_ret ?_); try clear hK K) | ((with_reducible refine catch_ret ?_)) | ((with_reducible refine catch_exit ?_)) | ((with_reducible refine catch_other ?_ ?_); (focus (decide))) | ((with_reducible apply aops_guard'); (focus (simp only [go_sem, hlt, hat, hat', cells_enc, pcells_enc, Ty.tc]; exact rfl))) | ((with_reducible apply aopsD_guard'); (focus (simp only [go_sem, hlt, hat, hat', cells_enc, pcells_enc, Ty.tc]; exact rfl))) | (first | (with_reducible refine gk_tt ?_) | (with_reducible refine gk_ff ?_)) | ((with_reducible intro C hC); simp only [go_sem, hlt, hat, hat', cells_enc, pcells_enc, Ty.tc]; (first | (with_reducible refine finA hC ?_); clear hC C | (with_reducible refine finD hC ?_); clear hC C)) | ((first | (with_reducible refine gk_tf ?_) | (with_reducible refine gk_ft ?_) | (with_reducible refine gk_u ?_) | (with_reducible refine gk_u' ?_)); first | (intro _ e; (first | rw [put_some] at e | rw [put_none] at e); subst e) | (intro _ _ e e'; (first | rw [put_some] at e | rw [put_none] at e); subst e; subst e')) | ((with_reducible apply awp_cond_g); (focus (simp only [go_sem, hlt, hat, hat', cells_enc, pcells_enc, Ty.tc]; exact rfl))) | (with_reducible refine ck_t ?_) | (with_reducible refine ck_f ?_)))
            simp only [eqTL, hpt, Bool.false_eq_true, if_false] at he
            rw [he]
            (refine retP_ret (List.range 40) rfl ?_; exact vwA)
          | true =>
            rw [hpt] at hc
            (repeat' (first | ((first | (with_reducible refine aops_call fun C hC => ?_) | (with_reducible refine aopsD_call fun C hC => ?_) | ((with_reducible intro C hC); (with_reducible refine ax_call_mp ?_))); (first | (simp only [go_sem, hlt, hat, hat', cells_enc, pcells_enc, Ty.tc]; (first | ((with_reducible apply ACall.pure0 [] (hc)); (focus (exact vwA)))))); (simp only [PV.scal, PV.scalL, if_true, Bool.and_true, Bool.and_false, Bool.false_and, Bool.true_and, frz, List.map_nil, Bool.false_eq_true, if_false, ite_self, hlt, hat, hat', cells_enc, pcells_enc, Ty.tc]); (first | (with_reducible refine finA hC ?_); clear hC C | (with_reducible refine finD hC ?_); clear hC C)) | ((with_reducible refine aops_cons' fun C hC => ?_); simp only [go_sem, hlt, hat, hat', cells_enc, pcells_enc, Ty.tc]; (with_reducible refine finA hC ?_); clear hC C) | ((with_reducible refine aopsD_cons' fun C hC => ?_); simp only [go_sem, hlt, hat, hat', cells_enc, pcells_enc, Ty.tc]; (with_reducible refine finD hC ?_); clear hC C) | ((with_reducible refine awp_seq_k fun K hK => ?_)) | ((with_reducible refine awp_reg_k fun K hK => ?_)) | ((with_reducible refine awp_dreg_k fun K hK => ?_)) | ((with_reducible refine aops_nil ?_); (with_reducible refine hK _ _ ?_); try clear hK K) | ((with_reducible refine aopsD_nil ?_); (with_reducible refine hK _ _ _ ?_ ?_); (focus (kernel_rfl)); try clear hK K) | ((with_reducible refine thn_normal ?_); (with_reducible refine hK _ _ ?_); try clear hK K) | ((with_reducible refine catch_normal ?_)) | ((with_reducible refine awp_skip_k ?_)) | ((with_reducible refine awp_ret_k ?_)) | ((with_reducible refine awp_exit_k ?_)) | ((with_reducible refine awp_block_k ?_)) | ((with_reducible refine thn_exit ?_); try clear hK K) | ((with_reducible refine thn_ret ?_); try clear hK K) | ((with_reducible refine catch_ret ?_)) | ((with_reducible refine catch_exit ?_)) | ((with_reducible refine catch_other ?_ ?_); (focus (decide))) | ((with_reducible apply aops_guard'); (focus (simp only [go_sem, hlt, hat, hat', cells_enc, pcells_enc, Ty.tc]; exact rfl))) | ((with_reducible apply aopsD_guard'); (focus (simp only [go_sem, hlt, hat, hat', cells_enc, pcells_enc, Ty.tc]; exact rfl))) | (first | (with_reducible refine gk_tt ?_) | (with_reducible refine gk_ff ?_)) | ((with_reducible intro C hC); simp only [go_sem, hlt, hat, hat', cells_enc, pcells_enc, Ty.tc]; (first | (with_reducible refine finA hC ?_); clear hC C | (with_reducible refine finD hC ?_); clear hC C)) | ((first | (with_reducible refine gk_tf ?_) | (with_reducible refine gk_ft ?_) | (with_reducible refine gk_u ?_) | (with_reducible refine gk_u' ?_)); first | (intro _ e; (first | rw [put_some] at e | rw [put_none] at e); subst e) | (intro _ _ e e'; (first | rw [put_some] at e | rw [put_none] at e); subst e; subst e')) | ((with_reducible apply awp_cond_g); (focus (simp only [go_sem, hlt, hat, hat', cells_enc, pcells_enc, Ty.tc]; exact rfl))) | (with_reducible refine ck_t ?_) | (with_reducible refine ck_f ?_)))
            have hw := wrapS (n := pre.length) (by unfold big at hb; omega)
            refine thn_normal ?_
            refine hK1 _ _ _ _ _ (LeB [0, 1] (by refine ⟨?_, ?_, ?_⟩ <;> simp only [leFr, leFb, leHp, V.ren, V.renL, V.bd, V.bdL, allL, lt, Go.Ab.get, hget, List.map_cons, List.map_nil, List.length_cons, List.length_nil, List.length_append, List.getElem?_cons_zero, List.getElem?_cons_succ, List.getElem?_nil, Option.join_some, Option.join_none, List.getD_cons_zero, List.getD_cons_succ, List.getD_nil, Nat.reduceAdd, Nat.reduceLT, Nat.reduceEqDiff, Nat.zero_add, reduceIte, if_true, if_false, and_true, true_and, renL_vcells, allL_vcells, renL_pv, leBlk_some, eq_self, true_or, or_true, reduceCtorEq, false_or, hw, List.length_append])) (ih rest' (pre ++ [t]) (pre' ++ [u]) (by simp [hpre]) (by simp [hpre']) (by simp [hll]) (by simpa [eqTL, hpt] using he))
      refine awp_loop_k _ (LeB [0, 1] (by refine ⟨?_, ?_, ?_⟩ <;> simp only [leFr, leFb, leHp, V.ren, V.renL, V.bd, V.bdL, allL, lt, Go.Ab.get, hget, List.map_cons, List.map_nil, List.length_cons, List.length_nil, List.length_append, List.getElem?_cons_zero, List.getElem?_cons_succ, List.getElem?_nil, Option.join_some, Option.join_none, List.getD_cons_zero, List.getD_cons_succ, List.getD_nil, Nat.reduceAdd, Nat.reduceLT, Nat.reduceEqDiff, Nat.zero_add, reduceIte, if_true, if_false, and_true, true_and, renL_vcells, allL_vcells, renL_pv, leBlk_some, eq_self, true_or, or_true, reduceCtorEq, false_or, c0])) (rows ss us [] [] rfl rfl rfl rfl)
termination_by t => SizeOf.sizeOf t
decreasing_by
  have := List.sizeOf_lt_of_mem ht
  simp only [Ty.mk.sizeOf_spec]; omega
end Go.Proofs.Ytbdoblgofddhdaa
/- Traits: the examples, equality of proofs. -/
set_option maxRecDepth 10000
set_option linter.unusedSimpArgs false
set_option linter.unusedVariables false
namespace Go.Proofs.Ytbdoblgofddhdaa
open Go Go.Ab
def nl : PV := .lit (.slice none 0 0)
def exDc : List Dc := [⟨[], .mk 0 0 [], -1, [], nl⟩, ⟨[], .mk 3 0 [], 0, [], nl⟩, ⟨[3], .mk 7 9 [.mk 2 3 []], 0, [⟨.mk 2 3 [], 0⟩], nl⟩]
def exTA : Ty := .mk 7 9 [.mk 7 9 [.mk 3 0 []]]
def exTB : Ty := .mk 7 9 [.mk 4 0 []]
def exPA : Prf := .mk exTA 0 2 (-1) [.mk 7 9 [.mk 3 0 []]] [.mk (.mk 7 9 [.mk 3 0 []]) 0 2 (-1) [.mk 3 0 []] [.mk (.mk 3 0 []) 0 1 (-1) [] []]]
theorem exSolA : sol exDc [] 8 exTA 0 = some exPA := by rfl
theorem exSolB : sol exDc [] 8 exTB 0 = none := by rfl
theorem exChk : chk exDc [] exPA = true := by rfl
set_option maxHeartbeats 4000000 in
theorem decls_ok : PCall Try.prog 76 [] (.list 7 (encDc exDc)) := by
  refine PCall.intro (ps := [.list 7 (encDc exDc)]) fn76 (by simp) ?_
  have hp := tpar_ok 3
  unfold ac76
  simp only [argFr]
  (repeat' (first | ((first | (with_reducible refine aops_call fun C hC => ?_) | (with_reducible refine aopsD_call fun C hC => ?_) | ((with_reducible intro C hC); (with_reducible refine ax_call_mp ?_))); (first | (simp only [go_sem, cells_enc, Ty.tc, scal_enc, Ty.kd, Ty.id, Ty.args]; (first | ((with_reducible apply ACall.pure0 [] (hp)); (focus (exact vwA))) | ((with_reducible apply ACall.pure0 [0] (typ_ok 7 9 [.mk 2 3 []])); (focus (exact vwA))) | ((with_reducible apply ACall.pure0 [] (tint_ok)); (focus (exact vwA)))))); (simp only [PV.scal, PV.scalL, if_true, Bool.and_true, Bool.and_false, Bool.false_and, Bool.true_and, frz, List.map_nil, Bool.false_eq_true, if_false, ite_self, go_sem, cells_enc, Ty.tc, scal_enc, Ty.kd, Ty.id, Ty.args]); (first | (with_reducible refine finA hC ?_); clear hC C | (with_reducible refine finD hC ?_); clear hC C)) | ((with_reducible refine aops_cons' fun C hC => ?_); simp only [go_sem, cells_enc, Ty.tc, scal_enc, Ty.kd, Ty.id, Ty.args]; (with_reducible refine finA hC ?_); clear hC C) | ((with_reducible refine aopsD_cons' fun C hC => ?_); simp only [go_sem, cells_enc, Ty.tc, scal_enc, Ty.kd, Ty.id, Ty.args]; (with_reducible refine finD hC ?_); clear hC C) | ((with_reducible refine awp_seq_k fun K hK => ?_)) | ((with_reducible refine awp_reg_k fun K hK => ?_)) | ((with_reducible refine awp_dreg_k fun K hK => ?_)) | ((with_reducible refine aops_nil ?_); (with_reducible refine hK _ _ ?_); try clear hK K) | ((with_reducible refine aopsD_nil ?_); (with_reducible refine hK _ _ _ ?_ ?_); (focus (kernel_rfl)); try clear hK K) | ((with_reducible refine thn_normal ?_); (with_reducible refine hK _ _ ?_); try clear hK K) | ((with_reducible refine catch_normal ?_)) | ((with_reducible refine awp_skip_k ?_)) | ((with_reducible refine awp_ret_k ?_)) | ((with_reducible refine awp_exit_k ?_)) | ((with_reducible refine awp_block_k ?_)) | ((with_reducible refine thn_exit ?_); try clear hK K) | ((with_reducible refine thn_ret ?_); try clear hK K) | ((with_reducible refine catch_ret ?_)) | ((with_reducible refine catch_exit ?_)) | ((with_reducible refine catch_other ?_ ?_); (focus (decide))) | ((with_reducible apply aops_guard'); (focus (simp only [go_sem, cells_enc, Ty.tc, scal_enc, Ty.kd, Ty.id, Ty.args]; exact rfl))) | ((with_reducible apply aopsD_guard'); (focus (simp only [go_sem, cells_enc, Ty.tc, scal_enc, Ty.kd, Ty.id, Ty.args]; exact rfl))) | (first | (with_reducible refine gk_tt ?_) | (with_reducible refine gk_ff ?_)) | ((with_reducible intro C hC); simp only [go_sem, cells_enc, Ty.tc, scal_enc, Ty.kd, Ty.id, Ty.args]; (first | (with_reducible refine finA hC ?_); clear hC C | (with_reducible refine finD hC ?_); clear hC C)) | ((first | (with_reducible refine gk_tf ?_) | (with_reducible refine gk_ft ?_) | (with_reducible refine gk_u ?_) | (with_reducible refine gk_u' ?_)); first | (intro _ e; (first | rw [put_some] at e | rw [put_none] at e); subst e) | (intro _ _ e e'; (first | rw [put_some] at e | rw [put_none] at e); subst e; subst e')) | ((with_reducible apply awp_cond_g); (focus (simp only [go_sem, cells_enc, Ty.tc, scal_enc, Ty.kd, Ty.id, Ty.args]; exact rfl))) | (with_reducible refine ck_t ?_) | (with_reducible refine ck_f ?_)))
  (refine retP_ret (List.range 40) rfl ?_; exact vwA)
theorem tlist_same (xs : List Ty) : PCall Try.prog 78 [.list 3 (encL xs), .list 3 (encL xs)] (bb true) := by
  have hc := equal2_ok (.mk 0 0 xs) (.mk 0 0 xs)
  rw [eqT_self] at hc
  refine PCall.intro (ps := [bb true]) fn78 (by simp) ?_
  unfold ac78
  simp only [argFr]
  (repeat' (first | ((first | (with_reducible refine aops_call fun C hC => ?_) | (with_reducible refine aopsD_call fun C hC => ?_) | ((with_reducible intro C hC); (with_reducible refine ax_call_mp ?_))); (first | (simp only [go_sem, cells_enc, Ty.tc]; (first | ((with_reducible apply ACall.pure0 [] (hc)); (focus (exact vwA)))))); (simp only [PV.scal, PV.scalL, if_true, Bool.and_true, Bool.and_false, Bool.false_and, Bool.true_and, frz, List.map_nil, Bool.false_eq_true, if_false, ite_self, cells_enc, Ty.tc]); (first | (with_reducible refine finA hC ?_); clear hC C | (with_reducible refine finD hC ?_); clear hC C)) | ((with_reducible refine aops_cons' fun C hC => ?_); simp only [go_sem, cells_enc, Ty.tc]; (with_reducible refine finA hC ?_); clear hC C) | ((with_reducible refine aopsD_cons' fun C hC => ?_); simp only [go_sem, cells_enc, Ty.tc]; (with_reducible refine finD hC ?_); clear hC C) | ((with_reducible refine awp_seq_k fun K hK => ?_)) | ((with_reducible refine awp_reg_k fun K hK => ?_)) | ((with_reducible refine awp_dreg_k fun K hK => ?_)) | ((with_reducible refine aops_nil ?_); (with_reducible refine hK _ _ ?_); try clear hK K) | ((with_reducible refine aopsD_nil ?_); (with_reducible refine hK _ _ _ ?_ ?_); (focus (kernel_rfl)); try clear hK K) | ((with_reducible refine thn_normal ?_); (with_reducible refine hK _ _ ?_); try clear hK K) | ((with_reducible refine catch_normal ?_)) | ((with_reducible refine awp_skip_k ?_)) | ((with_reducible refine awp_ret_k ?_)) | ((with_reducible refine awp_exit_k ?_)) | ((with_reducible refine awp_block_k ?_)) | ((with_reducible refine thn_exit ?_); try clear hK K) | ((with_reducible refine thn_ret ?_); try clear hK K) | ((with_reducible refine catch_ret ?_)) | ((with_reducible refine catch_exit ?_)) | ((with_reducible refine catch_other ?_ ?_); (focus (decide))) | ((with_reducible apply aops_guard'); (focus (simp only [go_sem, cells_enc, Ty.tc]; exact rfl))) | ((with_reducible apply aopsD_guard'); (focus (simp only [go_sem, cells_enc, Ty.tc]; exact rfl))) | (first | (with_reducible refine gk_tt ?_) | (with_reducible refine gk_ff ?_)) | ((with_reducible intro C hC); simp only [go_sem, cells_enc, Ty.tc]; (first | (with_reducible refine finA hC ?_); clear hC C | (with_reducible refine finD hC ?_); clear hC C)) | ((first | (with_reducible refine gk_tf ?_) | (with_reducible refine gk_ft ?_) | (with_reducible refine gk_u ?_) | (with_reducible refine gk_u' ?_)); first | (intro _ e; (first | rw [put_some] at e | rw [put_none] at e); subst e) | (intro _ _ e e'; (first | rw [put_some] at e | rw [put_none] at e); subst e; subst e')) | ((with_reducible apply awp_cond_g); (focus (simp only [go_sem, cells_enc, Ty.tc]; exact rfl))) | (with_reducible refine ck_t ?_) | (with_reducible refine ck_f ?_)))
  (refine retP_ret (List.range 40) rfl ?_; exact vwA)
set_option maxHeartbeats 4000000 in
theorem peq_same : ∀ p : Prf, PCall Try.prog 23 [p.enc, p.enc] (bb true)
  | .mk t tr im bd xs ps => by
    have hrec : ∀ q ∈ ps, PCall Try.prog 23 [q.enc, q.enc] (bb true) := fun q hq => peq_same q
    refine PCall.intro' (ps := [bb true]) fn23 (by simp) fun hok => ?_
    have hss : ps.length ≤ 1099511627776 := by
      simp only [PV.okL, Prf.enc, PV.ok, encPf_len, big] at hok; exact hok.1.2.2.2.2.2.2.2.1.1
    clear hok
    have hc := equal2_ok t t
    rw [eqT_self] at hc
    have hl := tlist_same xs
    unfold ac23
    simp only [argFr, Prf.enc]
    (repeat' (first | ((first | (with_reducible refine aops_call fun C hC => ?_) | (with_reducible refine aopsD_call fun C hC => ?_) | ((with_reducible intro C hC); (with_reducible refine ax_call_mp ?_))); (first | (simp only [go_sem, cells_enc, Ty.tc, bne_self_eq_false, encPf_len]; (first | ((with_reducible apply ACall.pure0 [] (hc)); (focus (exact vwA))) | ((with_reducible apply ACall.pure0 [] (hl)); (focus (exact vwA)))))); (simp only [PV.scal, PV.scalL, if_true, Bool.and_true, Bool.and_false, Bool.false_and, Bool.true_and, frz, List.map_nil, Bool.false_eq_true, if_false, ite_self, cells_enc, Ty.tc, bne_self_eq_false, encPf_len]); (first | (with_reducible refine finA hC ?_); clear hC C | (with_reducible refine finD hC ?_); clear hC C)) | ((with_reducible refine aops_cons' fun C hC => ?_); simp only [go_sem, cells_enc, Ty.tc, bne_self_eq_false, encPf_len]; (with_reducible refine finA hC ?_); clear hC C) | ((with_reducible refine aopsD_cons' fun C hC => ?_); simp only [go_sem, cells_enc, Ty.tc, bne_self_eq_false, encPf_len]; (with_reducible refine finD hC ?_); clear hC C) | ((with_reducible refine awp_seq_k fun K hK => ?_)) | ((with_reducible refine awp_reg_k fun K hK => ?_)) | ((with_reducible refine awp_dreg_k fun K hK => ?_)) | ((with_reducible refine aops_nil ?_); (with_reducible refine hK _ _ ?_); try clear hK K) | ((with_reducible refine aopsD_nil ?_); (with_reducible refine hK _ _ _ ?_ ?_); (focus (kernel_rfl)); try clear hK K) | ((with_reducible refine thn_normal ?_); (with_reducible refine hK _ _ ?_); try clear hK K) | ((with_reducible refine catch_normal ?_)) | ((with_reducible refine awp_skip_k ?_)) | ((with_reducible refine awp_ret_k ?_)) | ((with_reducible refine awp_exit_k ?_)) | ((with_reducible refine awp_block_k ?_)) | ((with_reducible refine thn_exit ?_); try clear hK K) | ((with_reducible refine thn_ret ?_); try clear hK K) | ((with_reducible refine catch_ret ?_)) | ((with_reducible refine catch_exit ?_)) | ((with_reducible refine catch_other ?_ ?_); (focus (decide))) | ((with_reducible apply aops_guard'); (focus (simp only [go_sem, cells_enc, Ty.tc, bne_self_eq_false, encPf_len]; exact rfl))) | ((with_reducible apply aopsD_guard'); (focus (simp only [go_sem, cells_enc, Ty.tc, bne_self_eq_false, encPf_len]; exact rfl))) | (first | (with_reducible refine gk_tt ?_) | (with_reducible refine gk_ff ?_)) | ((with_reducible intro C hC); simp only [go_sem, cells_enc, Ty.tc, bne_self_eq_false, encPf_len]; (first | (with_reducible refine finA hC ?_); clear hC C | (with_reducible refine finD hC ?_); clear hC C)) | ((first | (with_reducible refine gk_tf ?_) | (with_reducible refine gk_ft ?_) | (with_reducible refine gk_u ?_) | (with_reducible refine gk_u' ?_)); first | (intro _ e; (first | rw [put_some] at e | rw [put_none] at e); subst e) | (intro _ _ e e'; (first | rw [put_some] at e | rw [put_none] at e); subst e; subst e')) | ((with_reducible apply awp_cond_g); (focus (simp only [go_sem, cells_enc, Ty.tc, bne_self_eq_false, encPf_len]; exact rfl))) | (with_reducible refine ck_t ?_) | (with_reducible refine ck_f ?_)))
    have rows : ∀ (rest pre : List Prf), pre ++ rest = ps → loopN (awp Try.prog ac23_l0) (catch_ 0 (thn K (retP [RV.tmp 4] [bb true]))) (rest.length + 1)
       [(53, .pv (ii pre.length)), (52, .pv (ii ps.length)), (3, .ptr 1 0 0), (2, .ptr 0 0 0)]
       [some ⟨false, 30, 8, [[.pv (ii t.kd), .pv (ii t.id), .pv (.list 3 (encL t.args)), .pv (ii tr), .pv (ii im), .pv (ii bd), .pv (.list 3 (encL xs)), .pv (.list 8 (encPf ps))]], none⟩,
        some ⟨false, 30, 8, [[.pv (ii t.kd), .pv (ii t.id), .pv (.list 3 (encL t.args)), .pv (ii tr), .pv (ii im), .pv (ii bd), .pv (.list 3 (encL xs)), .pv (.list 8 (encPf ps))]], none⟩] := by
      intro rest
      induction rest with
      | nil =>
        intro pre hpre
        have hpre : pre = ps := by simpa using hpre
        subst hpre
        refine loopN_k fun K1 hK1 => ?_
        unfold ac23_l0
        (repeat' (first | ((with_reducible refine aops_cons' fun C hC => ?_); simp only [go_sem, lt_end]; (with_reducible refine finA hC ?_); clear hC C) | ((with_reducible refine aopsD_cons' fun C hC => ?_); simp only [go_sem, lt_end]; (with_reducible refine finD hC ?_); clear hC C) | ((with_reducible refine awp_seq_k fun K hK => ?_)) | ((with_reducible refine awp_reg_k fun K hK => ?_)) | ((with_reducible refine awp_dreg_k fun K hK => ?_)) | ((with_reducible refine aops_nil ?_); (with_reducible refine hK _ _ ?_); try clear hK K) | ((with_reducible refine aopsD_nil ?_); (with_reducible refine hK _ _ _ ?_ ?_); (focus (kernel_rfl)); try clear hK K) | ((with_reducible refine thn_normal ?_); (with_reducible refine hK _ _ ?_); try clear hK K) | ((with_reducible refine catch_normal ?_)) | ((with_reducible refine awp_skip_k ?_)) | ((with_reducible refine awp_ret_k ?_)) | ((with_reducible refine awp_exit_k ?_)) | ((with_reducible refine awp_block_k ?_)) | ((with_reducible refine thn_exit ?_); try clear hK K) | ((with_reducible refine thn_ret ?_); try clear hK K) | ((with_reducible refine catch_ret ?_)) | ((with_reducible refine catch_exit ?_)) | ((with_reducible refine catch_other ?_ ?_); (focus (decide))) | ((with_reducible apply aops_guard'); (focus (simp only [go_sem, lt_end]; exact rfl))) | ((with_reducible apply aopsD_guard'); (focus (simp only [go_sem, lt_end]; exact rfl))) | (first | (with_reducible refine gk_tt ?_) | (with_reducible refine gk_ff ?_)) | ((with_reducible intro C hC); simp only [go_sem, lt_end]; (first | (with_reducible refine finA hC ?_); clear hC C | (with_reducible refine finD hC ?_); clear hC C)) | ((first | (with_reducible refine gk_tf ?_) | (with_reducible refine gk_ft ?_) | (with_reducible refine gk_u ?_) | (with_reducible refine gk_u' ?_)); first | (intro _ e; (first | rw [put_some] at e | rw [put_none] at e); subst e) | (intro _ _ e e'; (first | rw [put_some] at e | rw [put_none] at e); subst e; subst e')) | ((with_reducible apply awp_cond_g); (focus (simp only [go_sem, lt_end]; exact rfl))) | (with_reducible refine ck_t ?_) | (with_reducible refine ck_f ?_)))
        (refine retP_ret (List.range 40) rfl ?_; exact vwA)
      | cons q rest ih =>
        intro pre hpre
        have hlt : decide ((pre.length : Int) < (ps.length : Int)) = true := by rw [← hpre]; exact lt_app _ _ _
        have hat : (encPf ps)[pre.length]? = some q.enc := by rw [← hpre]; exact encPf_at _ _ _
        have hb : pre.length + 1 ≤ big := by have := congrArg List.length hpre; simp at this; unfold big; omega
        have hw := wrapS (n := pre.length) (by unfold big at hb; omega)
        have hr := hrec q (by rw [← hpre]; simp)
        rw [encp_eq] at hr
        refine loopN_k fun K1 hK1 => ?_
        unfold ac23_l0
        (repeat' (first | ((first | (with_reducible refine aops_call fun C hC => ?_) | (with_reducible refine aopsD_call fun C hC => ?_) | ((with_reducible intro C hC); (with_reducible refine ax_call_mp ?_))); (first | (simp only [go_sem, hlt, hat, pcells_prf, Prf.tc, cells_prf]; (first | ((with_reducible apply ACall.pure0 [] (hr)); (focus (exact vwA)))))); (simp only [PV.scal, PV.scalL, if_true, Bool.and_true, Bool.and_false, Bool.false_and, Bool.true_and, frz, List.map_nil, Bool.false_eq_true, if_false, ite_self, hlt, hat, pcells_prf, Prf.tc, cells_prf]); (first | (with_reducible refine finA hC ?_); clear hC C | (with_reducible refine finD hC ?_); clear hC C)) | ((with_reducible refine aops_cons' fun C hC => ?_); simp only [go_sem, hlt, hat, pcells_prf, Prf.tc, cells_prf]; (with_reducible refine finA hC ?_); clear hC C) | ((with_reducible refine aopsD_cons' fun C hC => ?_); simp only [go_sem, hlt, hat, pcells_prf, Prf.tc, cells_prf]; (with_reducible refine finD hC ?_); clear hC C) | ((with_reducible refine awp_seq_k fun K hK => ?_)) | ((with_reducible refine awp_reg_k fun K hK => ?_)) | ((with_reducible refine awp_dreg_k fun K hK => ?_)) | ((with_reducible refine aops_nil ?_); (with_reducible refine hK _ _ ?_); try clear hK K) | ((with_reducible refine aopsD_nil ?_); (with_reducible refine hK _ _ _ ?_ ?_); (focus (kernel_rfl)); try clear hK K) | ((with_reducible refine thn_normal ?_); (with_reducible refine hK _ _ ?_); try clear hK K) | ((with_reducible refine catch_normal ?_)) | ((with_reducible refine awp_skip_k ?_)) | ((with_reducible refine awp_ret_k ?_)) | ((with_reducible refine awp_exit_k ?_)) | ((with_reducible refine awp_block_k ?_)) | ((with_reducible refine thn_exit ?_); try clear hK K) | ((with_reducible refine thn_ret ?_); try clear hK K) | ((with_reducible refine catch_ret ?_)) | ((with_reducible refine catch_exit ?_)) | ((with_reducible refine catch_other ?_ ?_); (focus (decide))) | ((with_reducible apply aops_guard'); (focus (simp only [go_sem, hlt, hat, pcells_prf, Prf.tc, cells_prf]; exact rfl))) | ((with_reducible apply aopsD_guard'); (focus (simp only [go_sem, hlt, hat, pcells_prf, Prf.tc, cells_prf]; exact rfl))) | (first | (with_reducible refine gk_tt ?_) | (with_reducible refine gk_ff ?_)) | ((with_reducible intro C hC); simp only [go_sem, hlt, hat, pcells_prf, Prf.tc, cells_prf]; (first | (with_reducible refine finA hC ?_); clear hC C | (with_reducible refine finD hC ?_); clear hC C)) | ((first | (with_reducible refine gk_tf ?_) | (with_reducible refine gk_ft ?_) | (with_reducible refine gk_u ?_) | (with_reducible refine gk_u' ?_)); first | (intro _ e; (first | rw [put_some] at e | rw [put_none] at e); subst e) | (intro _ _ e e'; (first | rw [put_some] at e | rw [put_none] at e); subst e; subst e')) | ((with_reducible apply awp_cond_g); (focus (simp only [go_sem, hlt, hat, pcells_prf, Prf.tc, cells_prf]; exact rfl))) | (with_reducible refine ck_t ?_) | (with_reducible refine ck_f ?_)))
        refine thn_normal ?_
        refine hK1 _ _ _ _ _ (LeB [0, 1] (by refine ⟨?_, ?_, ?_⟩ <;> simp only [leFr, leFb, leHp, V.ren, V.renL, V.bd, V.bdL, allL, lt, Go.Ab.get, hget, List.map_cons, List.map_nil, List.length_cons, List.length_nil, List.length_append, List.getElem?_cons_zero, List.getElem?_cons_succ, List.getElem?_nil, Option.join_some, Option.join_none, List.getD_cons_zero, List.getD_cons_succ, List.getD_nil, Nat.reduceAdd, Nat.reduceLT, Nat.reduceEqDiff, Nat.zero_add, reduceIte, if_true, if_false, and_true, true_and, renL_vcells, allL_vcells, renL_pv, leBlk_some, eq_self, true_or, or_true, reduceCtorEq, false_or, hw, List.length_append])) (ih (pre ++ [q]) (by simp [hpre]))
    refine awp_loop_k _ (LeB [0, 1] (by refine ⟨?_, ?_, ?_⟩ <;> simp only [leFr, leFb, leHp, V.ren, V.renL, V.bd, V.bdL, allL, lt, Go.Ab.get, hget, List.map_cons, List.map_nil, List.length_cons, List.length_nil, List.length_append, List.getElem?_cons_zero, List.getElem?_cons_succ, List.getElem?_nil, Option.join_some, Option.join_none, List.getD_cons_zero, List.getD_cons_succ, List.getD_nil, Nat.reduceAdd, Nat.reduceLT, Nat.reduceEqDiff, Nat.zero_add, reduceIte, if_true, if_false, and_true, true_and, renL_vcells, allL_vcells, renL_pv, leBlk_some, eq_self, true_or, or_true, reduceCtorEq, false_or, c0])) (rows ps [] rfl)
termination_by p => SizeOf.sizeOf p
decreasing_by
  have := List.sizeOf_lt_of_mem hq
  simp only [Prf.mk.sizeOf_spec]; omega
theorem pat2 (p : Prf) : p.enc.cells = p.enc.cells := rfl
set_option maxHeartbeats 8000000 in
theorem trwork_ok : PCall Try.prog 21 [] (bb true) := by
  have hA : PCall Try.prog 22 [.list 7 (encDc exDc), .list 4 (encTb []), exTA.enc, ii 0] (.tup [exPA.enc, bb true]) := by
    have := solve1_ok exDc [] exTA 0
    rwa [exSolA] at this
  have hB : PCall Try.prog 22 [.list 7 (encDc exDc), .list 4 (encTb []), exTB.enc, ii 0] (.tup [zP.enc, bb false]) := by
    have := solve1_ok exDc [] exTB 0
    rwa [exSolB] at this
  have hC : PCall Try.prog 25 [.list 7 (encDc exDc), .list 4 (encTb []), exPA.enc] (bb true) := by
    have := chkp_ok exDc [] exPA
    rwa [exChk] at this
  have hps : exPA.ps = [.mk (.mk 7 9 [.mk 3 0 []]) 0 2 (-1) [.mk 3 0 []] [.mk (.mk 3 0 []) 0 1 (-1) [] []]] := rfl
  have him : exPA.im = 2 := rfl
  have h11 : (((1 : Nat) : Int) == 1) = true := rfl
  have hps2 : (Prf.mk (.mk 7 9 [.mk 3 0 []]) 0 2 (-1) [.mk 3 0 []] [.mk (.mk 3 0 []) 0 1 (-1) [] []]).ps = [.mk (.mk 3 0 []) 0 1 (-1) [] []] := rfl
  have him2 : (Prf.mk (.mk 3 0 []) 0 1 (-1) [] []).im = 1 := rfl
  refine PCall.intro (ps := [bb true]) fn21 (by simp) ?_
  rw [encp_eq, him, hps] at hC
  simp only [encPf] at hC
  unfold ac21
  simp only [argFr]
  (repeat' (first | ((first | (with_reducible refine aops_call fun C hC => ?_) | (with_reducible refine aopsD_call fun C hC => ?_) | ((with_reducible intro C hC); (with_reducible refine ax_call_mp ?_))); (first | (simp only [go_sem, cells_enc, Ty.tc, scal_enc, cells_prf, Prf.tc, scal_prf, him, hps, encPf, pcells_prf, hps2, him2, h11]; (first | ((with_reducible apply ACall.pure0 [] (tint_ok)); (focus (exact vwA))) | ((with_reducible apply ACall.pure0 [0] (typ_ok 7 9 [.mk 3 0 []])); (focus (exact vwA))) | ((with_reducible apply ACall.pure0 [1] (typ_ok 7 9 [.mk 7 9 [.mk 3 0 []]])); (focus (exact vwA))) | ((with_reducible apply ACall.pure0 [] (decls_ok)); (focus (exact vwA))) | ((with_reducible apply ACall.pure0 [] (hA)); (focus (exact vwA))) | ((with_reducible apply ACall.pure0 [] (hB)); (focus (exact vwA))) | ((with_reducible apply ACall.pure0 [] (hC)); (focus (exact vwA))) | ((with_reducible apply ACall.pure0 [] (typ_ok 4 0 [])); (focus (exact vwA))) | ((with_reducible apply ACall.pure0 [10] (typ_ok 7 9 [.mk 4 0 []])); (focus (exact vwA)))))); (simp only [PV.scal, PV.scalL, if_true, Bool.and_true, Bool.and_false, Bool.false_and, Bool.true_and, frz, List.map_nil, Bool.false_eq_true, if_false, ite_self, go_sem, cells_enc, Ty.tc, scal_enc, cells_prf, Prf.tc, scal_prf, him, hps, encPf, pcells_prf, hps2, him2, h11]); (first | (with_reducible refine finA hC ?_); clear hC C | (with_reducible refine finD hC ?_); clear hC C)) | ((with_reducible refine aops_cons' fun C hC => ?_); simp only [go_sem, cells_enc, Ty.tc, scal_enc, cells_prf, Prf.tc, scal_prf, him, hps, encPf, pcells_prf, hps2, him2, h11]; (with_reducible refine finA hC ?_); clear hC C) | ((with_reducible refine aopsD_cons' fun C hC => ?_); simp only [go_sem, cells_enc, Ty.tc, scal_enc, cells_prf, Prf.tc, scal_prf, him, hps, encPf, pcells_prf, hps2, him2, h11]; (with_reducible refine finD hC ?_); clear hC C) | ((with_reducible refine awp_seq_k fun K hK => ?_)) | ((with_reducible refine awp_reg_k fun K hK => ?_)) | ((with_reducible refine awp_dreg_k fun K hK => ?_)) | ((with_reducible refine aops_nil ?_); (with_reducible refine hK _ _ ?_); try clear hK K) | ((with_reducible refine aopsD_nil ?_); (with_reducible refine hK _ _ _ ?_ ?_); (focus (kernel_rfl)); try clear hK K) | ((with_reducible refine thn_normal ?_); (with_reducible refine hK _ _ ?_); try clear hK K) | ((with_reducible refine catch_normal ?_)) | ((with_reducible refine awp_skip_k ?_)) | ((with_reducible refine awp_ret_k ?_)) | ((with_reducible refine awp_exit_k ?_)) | ((with_reducible refine awp_block_k ?_)) | ((with_reducible refine thn_exit ?_); try clear hK K) | ((with_reducible refine thn_ret ?_); try clear hK K) | ((with_reducible refine catch_ret ?_)) | ((with_reducible refine catch_exit ?_)) | ((with_reducible refine catch_other ?_ ?_); (focus (decide))) | ((with_reducible apply aops_guard'); (focus (simp only [go_sem, cells_enc, Ty.tc, scal_enc, cells_prf, Prf.tc, scal_prf, him, hps, encPf, pcells_prf, hps2, him2, h11]; exact rfl))) | ((with_reducible apply aopsD_guard'); (focus (simp only [go_sem, cells_enc, Ty.tc, scal_enc, cells_prf, Prf.tc, scal_prf, him, hps, encPf, pcells_prf, hps2, him2, h11]; exact rfl))) | (first | (with_reducible refine gk_tt ?_) | (with_reducible refine gk_ff ?_)) | ((with_reducible intro C hC); simp only [go_sem, cells_enc, Ty.tc, scal_enc, cells_prf, Prf.tc, scal_prf, him, hps, encPf, pcells_prf, hps2, him2, h11]; (first | (with_reducible refine finA hC ?_); clear hC C | (with_reducible refine finD hC ?_); clear hC C)) | ((first | (with_reducible refine gk_tf ?_) | (with_reducible refine gk_ft ?_) | (with_reducible refine gk_u ?_) | (with_reducible refine gk_u' ?_)); first | (intro _ e; (first | rw [put_some] at e | rw [put_none] at e); subst e) | (intro _ _ e e'; (first | rw [put_some] at e | rw [put_none] at e); subst e; subst e')) | ((with_reducible apply awp_cond_g); (focus (simp only [go_sem, cells_enc, Ty.tc, scal_enc, cells_prf, Prf.tc, scal_prf, him, hps, encPf, pcells_prf, hps2, him2, h11]; exact rfl))) | (with_reducible refine ck_t ?_) | (with_reducible refine ck_f ?_)))
  intro C hC0
  refine ax_call_mp ?_
  simp only [go_sem]
  with_reducible apply ACall.pure0 [] hC
  · refine .cons _ _ _ _ (.pv _) (.cons _ _ _ _ Vw_nil (.cons _ _ _ _ (.agg _ _ ?_) .nil))
    exact vwA
  · simp only [PV.scal, if_true]
    refine finD hC0 ?_
    clear hC0 C
    (repeat' (first | ((with_reducible refine aops_cons' fun C hC => ?_); simp only [go_sem]; (with_reducible refine finA hC ?_); clear hC C) | ((with_reducible refine aopsD_cons' fun C hC => ?_); simp only [go_sem]; (with_reducible refine finD hC ?_); clear hC C) | ((with_reducible refine awp_seq_k fun K hK => ?_)) | ((with_reducible refine awp_reg_k fun K hK => ?_)) | ((with_reducible refine awp_dreg_k fun K hK => ?_)) | ((with_reducible refine aops_nil ?_); (with_reducible refine hK _ _ ?_); try clear hK K) | ((with_reducible refine aopsD_nil ?_); (with_reducible refine hK _ _ _ ?_ ?_); (focus (kernel_rfl)); try clear hK K) | ((with_reducible refine thn_normal ?_); (with_reducible refine hK _ _ ?_); try clear hK K) | ((with_reducible refine catch_normal ?_)) | ((with_reducible refine awp_skip_k ?_)) | ((with_reducible refine awp_ret_k ?_)) | ((with_reducible refine awp_exit_k ?_)) | ((with_reducible refine awp_block_k ?_)) | ((with_reducible refine thn_exit ?_); try clear hK K) | ((with_reducible refine thn_ret ?_); try clear hK K) | ((with_reducible refine catch_ret ?_)) | ((with_reducible refine catch_exit ?_)) | ((with_reducible refine catch_other ?_ ?_); (focus (decide))) | ((with_reducible apply aops_guard'); (focus (simp only [go_sem]; exact rfl))) | ((with_reducible apply aopsD_guard'); (focus (simp only [go_sem]; exact rfl))) | (first | (with_reducible refine gk_tt ?_) | (with_reducible refine gk_ff ?_)) | ((with_reducible intro C hC); simp only [go_sem]; (first | (with_reducible refine finA hC ?_); clear hC C | (with_reducible refine finD hC ?_); clear hC C)) | ((first | (with_reducible refine gk_tf ?_) | (with_reducible refine gk_ft ?_) | (with_reducible refine gk_u ?_) | (with_reducible refine gk_u' ?_)); first | (intro _ e; (first | rw [put_some] at e | rw [put_none] at e); subst e) | (intro _ _ e e'; (first | rw [put_some] at e | rw [put_none] at e); subst e; subst e')) | ((with_reducible apply awp_cond_g); (focus (simp only [go_sem]; exact rfl))) | (with_reducible refine ck_t ?_) | (with_reducible refine ck_f ?_)))
    (refine retP_ret (List.range 40) rfl ?_; exact vwA)
/-- the first eight declarations -/
def d8 (ds : List Dc) : List Dc := ds.take 8
theorem take_dc (ds : List Dc) (n : Nat) : (encDc ds).take n = encDc (ds.take n) := by simp [encDc, List.map_take]
theorem min8 (n : Nat) : (if (8 : Int) < (n : Int) then (8 : Int) else (n : Int)) = ((min n 8 : Nat) : Int) := by
  by_cases h : (8 : Int) < (n : Int)
  · rw [if_pos h]; omega
  · rw [if_neg h]; omega
theorem take_min (ds : List Dc) : ds.take (min ds.length 8) = d8 ds := by
  unfold d8
  by_cases h : ds.length ≤ 8
  · rw [Nat.min_eq_left h, List.take_of_length_le (Nat.le_refl _), List.take_of_length_le h]
  · rw [Nat.min_eq_right (by omega)]
set_option maxHeartbeats 8000000 in
theorem law12 (ds : List Dc) (az : List Tb) (t : Ty) (tr : Int) : PCall Try.prog 3 [.list 7 (encDc ds), .list 4 (encTb az), t.enc, ii tr] (bb true) := by
  have hw := trwork_ok
  have hs := solve1_ok (d8 ds) az t tr
  refine PCall.intro (ps := [bb true]) fn3 (by simp) ?_
  unfold ac3
  simp only [argFr]
  cases h : sol (d8 ds) az 8 t tr with
  | none =>
    rw [h] at hs
    simp only [solV] at hs
    have hz := peq_same zP
    simp only [zP, Prf.enc, encL, encPf, zT, Ty.kd, Ty.id, Ty.args] at hz hs
    (repeat' (first | ((first | (with_reducible refine aops_call fun C hC => ?_) | (with_reducible refine aopsD_call fun C hC => ?_) | ((with_reducible intro C hC); (with_reducible refine ax_call_mp ?_))); (first | (simp only [go_sem, cells_enc, Ty.tc, encDc_len, min8, take_dc, take_min, Nat.min_le_left, Nat.zero_le]; (first | ((with_reducible apply ACall.pure0 [] (hw)); (focus (exact vwA))) | ((with_reducible apply ACall.pure0 [] (hs)); (focus (exact vwA))) | ((with_reducible apply ACall.pure0 [] (hz)); (focus (exact vwA)))))); (simp only [PV.scal, PV.scalL, if_true, Bool.and_true, Bool.and_false, Bool.false_and, Bool.true_and, frz, List.map_nil, Bool.false_eq_true, if_false, ite_self, cells_enc, Ty.tc, encDc_len, min8, take_dc, take_min, Nat.min_le_left, Nat.zero_le]); (first | (with_reducible refine finA hC ?_); clear hC C | (with_reducible refine finD hC ?_); clear hC C)) | ((with_reducible refine aops_cons' fun C hC => ?_); simp only [go_sem, cells_enc, Ty.tc, encDc_len, min8, take_dc, take_min, Nat.min_le_left, Nat.zero_le]; (with_reducible refine finA hC ?_); clear hC C) | ((with_reducible refine aopsD_cons' fun C hC => ?_); simp only [go_sem, cells_enc, Ty.tc, encDc_len, min8, take_dc, take_min, Nat.min_le_left, Nat.zero_le]; (with_reducible refine finD hC ?_); clear hC C) | ((with_reducible refine awp_seq_k fun K hK => ?_)) | ((with_reducible refine awp_reg_k fun K hK => ?_)) | ((with_reducible refine awp_dreg_k fun K hK => ?_)) | ((with_reducible refine aops_nil ?_); (with_reducible refine hK _ _ ?_); try clear hK K) | ((with_reducible refine aopsD_nil ?_); (with_reducible refine hK _ _ _ ?_ ?_); (focus (kernel_rfl)); try clear hK K) | ((with_reducible refine thn_normal ?_); (with_reducible refine hK _ _ ?_); try clear hK K) | ((with_reducible refine catch_normal ?_)) | ((with_reducible refine awp_skip_k ?_)) | ((with_reducible refine awp_ret_k ?_)) | ((with_reducible refine awp_exit_k ?_)) | ((with_reducible refine awp_block_k ?_)) | ((with_reducible refine thn_exit ?_); try clear hK K) | ((with_reducible refine thn_ret ?_); try clear hK K) | ((with_reducible refine catch_ret ?_)) | ((with_reducible refine catch_exit ?_)) | ((with_reducible refine catch_other ?_ ?_); (focus (decide))) | ((with_reducible apply aops_guard'); (focus (simp only [go_sem, cells_enc, Ty.tc, encDc_len, min8, take_dc, take_min, Nat.min_le_left, Nat.zero_le]; exact rfl))) | ((with_reducible apply aopsD_guard'); (focus (simp only [go_sem, cells_enc, Ty.tc, encDc_len, min8, take_dc, take_min, Nat.min_le_left, Nat.zero_le]; exact rfl))) | (first | (with_reducible refine gk_tt ?_) | (with_reducible refine gk_ff ?_)) | ((with_reducible intro C hC); simp only [go_sem, cells_enc, Ty.tc, encDc_len, min8, take_dc, take_min, Nat.min_le_left, Nat.zero_le]; (first | (with_reducible refine finA hC ?_); clear hC C | (with_reducible refine finD hC ?_); clear hC C)) | ((first | (with_reducible refine gk_tf ?_) | (with_reducible refine gk_ft ?_) | (with_reducible refine gk_u ?_) | (with_reducible refine gk_u' ?_)); first | (intro _ e; (first | rw [put_some] at e | rw [put_none] at e); subst e) | (intro _ _ e e'; (first | rw [put_some] at e | rw [put_none] at e); subst e; subst e')) | ((with_reducible apply awp_cond_g); (focus (simp only [go_sem, cells_enc, Ty.tc, encDc_len, min8, take_dc, take_min, Nat.min_le_left, Nat.zero_le]; exact rfl))) | (with_reducible refine ck_t ?_) | (with_reducible refine ck_f ?_)))
    (refine retP_ret (List.range 40) rfl ?_; exact vwA)
  | some p =>
    rw [h] at hs
    simp only [solV] at hs
    obtain ⟨ht, htr, hck⟩ := sol_chk _ _ _ _ _ _ h
    subst ht; subst htr
    have hq := equal_ok p.t p.t
    rw [eqT_self] at hq
    have hc := chkp_ok (d8 ds) az p
    rw [hck, encp_eq] at hc
    (repeat' (first | ((first | (with_reducible refine aops_call fun C hC => ?_) | (with_reducible refine aopsD_call fun C hC => ?_) | ((with_reducible intro C hC); (with_reducible refine ax_call_mp ?_))); (first | (simp only [go_sem, cells_enc, Ty.tc, encDc_len, min8, take_dc, take_min, Nat.min_le_left, Nat.zero_le, cells_prf, Prf.tc, beq_self_eq_true]; (first | ((with_reducible apply ACall.pure0 [] (hw)); (focus (exact vwA))) | ((with_reducible apply ACall.pure0 [] (hs)); (focus (exact vwA))) | ((with_reducible apply ACall.pure0 [] (hq)); (focus (exact vwA))) | ((with_reducible apply ACall.pure0 [] (hc)); (focus (exact vwA)))))); (simp only [PV.scal, PV.scalL, if_true, Bool.and_true, Bool.and_false, Bool.false_and, Bool.true_and, frz, List.map_nil, Bool.false_eq_true, if_false, ite_self, cells_enc, Ty.tc, encDc_len, min8, take_dc, take_min, Nat.min_le_left, Nat.zero_le, cells_prf, Prf.tc, beq_self_eq_true]); (first | (with_reducible refine finA hC ?_); clear hC C | (with_reducible refine finD hC ?_); clear hC C)) | ((with_reducible refine aops_cons' fun C hC => ?_); simp only [go_sem, cells_enc, Ty.tc, encDc_len, min8, take_dc, take_min, Nat.min_le_left, Nat.zero_le, cells_prf, Prf.tc, beq_self_eq_true]; (with_reducible refine finA hC ?_); clear hC C) | ((with_reducible refine aopsD_cons' fun C hC => ?_); simp only [go_sem, cells_enc, Ty.tc, encDc_len, min8, take_dc, take_min, Nat.min_le_left, Nat.zero_le, cells_prf, Prf.tc, beq_self_eq_true]; (with_reducible refine finD hC ?_); clear hC C) | ((with_reducible refine awp_seq_k fun K hK => ?_)) | ((with_reducible refine awp_reg_k fun K hK => ?_)) | ((with_reducible refine awp_dreg_k fun K hK => ?_)) | ((with_reducible refine aops_nil ?_); (with_reducible refine hK _ _ ?_); try clear hK K) | ((with_reducible refine aopsD_nil ?_); (with_reducible refine hK _ _ _ ?_ ?_); (focus (kernel_rfl)); try clear hK K) | ((with_reducible refine thn_normal ?_); (with_reducible refine hK _ _ ?_); try clear hK K) | ((with_reducible refine catch_normal ?_)) | ((with_reducible refine awp_skip_k ?_)) | ((with_reducible refine awp_ret_k ?_)) | ((with_reducible refine awp_exit_k ?_)) | ((with_reducible refine awp_block_k ?_)) | ((with_reducible refine thn_exit ?_); try clear hK K) | ((with_reducible refine thn_ret ?_); try clear hK K) | ((with_reducible refine catch_ret ?_)) | ((with_reducible refine catch_exit ?_)) | ((with_reducible refine catch_other ?_ ?_); (focus (decide))) | ((with_reducible apply aops_guard'); (focus (simp only [go_sem, cells_enc, Ty.tc, encDc_len, min8, take_dc, take_min, Nat.min_le_left, Nat.zero_le, cells_prf, Prf.tc, beq_self_eq_true]; exact rfl))) | ((with_reducible apply aopsD_guard'); (focus (simp only [go_sem, cells_enc, Ty.tc, encDc_len, min8, take_dc, take_min, Nat.min_le_left, Nat.zero_le, cells_prf, Prf.tc, beq_self_eq_true]; exact rfl))) | (first | (with_reducible refine gk_tt ?_) | (with_reducible refine gk_ff ?_)) | ((with_reducible intro C hC); simp only [go_sem, cells_enc, Ty.tc, encDc_len, min8, take_dc, take_min, Nat.min_le_left, Nat.zero_le, cells_prf, Prf.tc, beq_self_eq_true]; (first | (with_reducible refine finA hC ?_); clear hC C | (with_reducible refine finD hC ?_); clear hC C)) | ((first | (with_reducible refine gk_tf ?_) | (with_reducible refine gk_ft ?_) | (with_reducible refine gk_u ?_) | (with_reducible refine gk_u' ?_)); first | (intro _ e; (first | rw [put_some] at e | rw [put_none] at e); subst e) | (intro _ _ e e'; (first | rw [put_some] at e | rw [put_none] at e); subst e; subst e')) | ((with_reducible apply awp_cond_g); (focus (simp only [go_sem, cells_enc, Ty.tc, encDc_len, min8, take_dc, take_min, Nat.min_le_left, Nat.zero_le, cells_prf, Prf.tc, beq_self_eq_true]; exact rfl))) | (with_reducible refine ck_t ?_) | (with_reducible refine ck_f ?_)))
    (refine retP_ret (List.range 40) rfl ?_; exact vwA)
end Go.Proofs.Ytbdoblgofddhdaa
