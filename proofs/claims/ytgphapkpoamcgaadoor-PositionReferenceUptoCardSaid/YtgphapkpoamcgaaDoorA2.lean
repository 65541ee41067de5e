/- A2: joined from O9. -/
import Derived.Test.YtgphapkpoamcgaaDoorA1
/- Positions and offsets: what the program and the reference compute; that they agree. -/
set_option linter.unusedSimpArgs false
set_option linter.unusedVariables false
namespace Go.Proofs.YtgphapkpoamcgaaDoor
open Go Go.Ab
/-! ### an offset's position -/
def walkP (u : Bool) (l : List UInt8) (o : Nat) : Nat → Nat → Nat → Nat × Nat
  | 0, i, c => (i, c)
  | n + 1, i, c => if i < o then walkP u l o n (i + (dec (l.drop i)).2) (c + wd u (dec (l.drop i)).1) else (i, c)
def toPos (u : Bool) (l : List UInt8) (o : Int) : Nat × Nat × Nat :=
  if o < 0 ∨ o > l.length then (0, 0, 1) else
    let r := walkP u l o.toNat o.toNat (lst l o.toNat) 0
    if r.1 > o.toNat then (0, 0, 3) else (cntN (l.take o.toNat), r.2, 0)
def colL (u : Bool) (o : Nat) : List R3 → Nat → Option Nat
  | [], c => some c
  | (s, w, k) :: r, c => if s ≥ o then some c else if s + w > o then none else colL u o r (c + if u then k else 1)
def downL (xs : List Nat) (o : Nat) : Nat → Nat
  | 0 => 0
  | n + 1 => if xs.getD (n + 1) 0 > o then downL xs o n else n + 1
def posOf (u : Bool) (l : List UInt8) (o : Int) : Nat × Nat × Nat :=
  if o < 0 ∨ o > l.length then (0, 0, 1) else
    let j := downL (starts l) o.toNat ((starts l).length - 1)
    match colL u o.toNat (lnRunes l ((starts l).getD j 0)) 0 with
    | none => (0, 0, 3)
    | some c => (j, c, 0)
theorem wd_un (u : Bool) (r : Nat) : (if u then un r else 1) = wd u r := rfl
theorem walkP_ge (u : Bool) (l : List UInt8) (o : Nat) : ∀ n i c, o ≤ i → walkP u l o n i c = (i, c)
  | 0, i, c, _ => rfl
  | n + 1, i, c, h => by simp only [walkP]; rw [if_neg (by omega)]
theorem drop_ne {l : List UInt8} {p : Nat} (h : (ln (l.drop p)).length ≠ 0) : p < l.length := by
  rcases Nat.lt_or_ge p l.length with h1 | h1
  · exact h1
  · rw [List.drop_eq_nil_iff.2 h1] at h; exact absurd rfl h
/-- a step within the line -/
theorem ln_step {l : List UInt8} {p : Nat} (h : ln (l.drop p) ≠ []) : dec (ln (l.drop p)) = dec (l.drop p) ∧ 1 ≤ (dec (l.drop p)).2 ∧ (dec (l.drop p)).2 ≤ (ln (l.drop p)).length ∧ ln (l.drop (p + (dec (l.drop p)).2)) = (ln (l.drop p)).drop (dec (l.drop p)).2 := by
  have h1 := dec_ln h
  have h2 := dec_pos h
  have h3 := dec_le (ln (l.drop p))
  rw [h1] at h2 h3
  exact ⟨h1, h2, h3, by rw [← List.drop_drop]; exact ln_drop _ _ h3⟩
theorem col_walk (u : Bool) (l : List UInt8) (o : Nat) : ∀ (n m p c : Nat), p ≤ o → o ≤ p + (ln (l.drop p)).length → o ≤ p + n → (ln (l.drop p)).length ≤ m →
    colL u o (rns m p (ln (l.drop p))) c = if (walkP u l o n p c).1 > o then none else some (walkP u l o n p c).2
  | n, m, p, c, h1, h2, h3, h4 => by
    rcases Nat.lt_or_ge p o with hp | hp
    · obtain ⟨n, rfl⟩ : ∃ k, n = k + 1 := ⟨n - 1, by omega⟩
      have hne : ln (l.drop p) ≠ [] := fun h0 => by rw [h0] at h2; simp at h2; omega
      obtain ⟨m, rfl⟩ : ∃ k, m = k + 1 := ⟨m - 1, by have := List.length_pos_iff.2 hne; omega⟩
      obtain ⟨e1, e2, e3, e4⟩ := ln_step hne
      have ew : walkP u l o (n + 1) p c = walkP u l o n (p + (dec (l.drop p)).2) (c + wd u (dec (l.drop p)).1) := by simp only [walkP]; rw [if_pos hp]
      have er : rns (m + 1) p (ln (l.drop p)) = (p, (dec (l.drop p)).2, un (dec (l.drop p)).1) :: rns m (p + (dec (l.drop p)).2) ((ln (l.drop p)).drop (dec (l.drop p)).2) := by simp only [rns]; rw [if_neg hne, e1]
      rw [ew, er]
      simp only [colL]
      rw [if_neg (by omega), wd_un]
      by_cases hq : p + (dec (l.drop p)).2 > o
      · rw [if_pos hq, walkP_ge u l o n _ _ (by omega), if_pos hq]
      · rw [if_neg hq, ← e4]
        refine col_walk u l o n m _ _ (by omega) ?_ (by omega) ?_
        · rw [e4, List.length_drop]; omega
        · rw [e4, List.length_drop]; omega
    · have : p = o := by omega
      subst this
      rw [walkP_ge u l p n p c (Nat.le_refl _), if_neg (Nat.lt_irrefl _)]
      cases m with
      | zero => rfl
      | succ m =>
        simp only [rns]
        split
        · rfl
        · simp only [colL]; rw [if_pos (Nat.le_refl _)]
theorem downL_eq (xs : List Nat) (o k : Nat) : ∀ n, k ≤ n → (∀ j, k < j → j ≤ n → xs.getD j 0 > o) → (k = 0 ∨ ¬ xs.getD k 0 > o) → downL xs o n = k
  | 0, h, _, _ => by simp [downL]; omega
  | n + 1, h, h1, h2 => by
    simp only [downL]
    by_cases hk : k = n + 1
    · subst hk
      rw [if_neg (h2.resolve_left (by omega))]
    · rw [if_pos (h1 (n + 1) (by omega) (Nat.le_refl _))]
      exact downL_eq xs o k n (by omega) (fun j a b => h1 j a (by omega)) h2
theorem down_cnt (l : List UInt8) (o : Nat) (h : o ≤ l.length) : downL (starts l) o ((starts l).length - 1) = cntN (l.take o) := by
  have hlt := cnt_lt l o h
  refine downL_eq _ _ _ _ (by omega) (fun j a b => ?_) (.inr ?_)
  · have hj : j < (starts l).length := by omega
    have := starts_at l o j _ (List.getElem?_eq_getElem hj)
    rw [List.getD_eq_getElem?_getD, List.getElem?_eq_getElem hj]
    simp only [Option.getD_some]; omega
  · rw [List.getD_eq_getElem?_getD, starts_cnt l o h]
    have := (lst_ln l o h).2
    simp only [Option.getD_some]; omega
theorem pos_eq (u : Bool) (l : List UInt8) (o : Int) : posOf u l o = toPos u l o := by
  unfold posOf toPos
  by_cases hb : o < 0 ∨ o > l.length
  · rw [if_pos hb, if_pos hb]
  · rw [if_neg hb, if_neg hb]
    have ho : o.toNat ≤ l.length := by omega
    generalize o.toNat = k at ho
    dsimp only
    rw [down_cnt l k ho, List.getD_eq_getElem?_getD, starts_cnt l k ho]
    simp only [Option.getD_some]
    have hl := lst_ln l k ho
    unfold lnRunes
    rw [col_walk u l k k _ (lst l k) 0 hl.2 hl.1 (by omega) (Nat.le_refl _)]
    split <;> rename_i h <;> split at h <;> simp_all
/-! ### a position's offset -/
def walkO (u : Bool) (l : List UInt8) (t : Int) : Nat → Nat → Nat → Nat × Nat
  | 0, i, c => (i, c)
  | n + 1, i, c => if (c : Int) < t ∧ i < l.length ∧ lnC (l.getD i 0) = true then walkO u l t n (i + (dec (l.drop i)).2) (c + wd u (dec (l.drop i)).1) else (i, c)
def endO (t : Int) (r : Nat × Nat) : Nat × Nat := if t < 0 ∨ (r.2 : Int) < t then (0, 1) else if (r.2 : Int) > t then (0, 3) else (r.1, 0)
def toOff (u : Bool) (l : List UInt8) (j t : Int) : Nat × Nat :=
  if j < 0 ∨ j ≥ (starts l).length then (0, 5) else endO t (walkO u l t l.length ((starts l).getD j.toNat 0) 0)
def offL (u : Bool) (t : Int) : List R3 → Nat → Nat → Nat × Nat
  | [], c, e => if (c : Int) = t then (e, 0) else (0, 1)
  | (s, w, k) :: r, c, e => if (c : Int) = t then (s, 0) else if u = true ∧ k = 2 ∧ (c : Int) + 1 = t then (0, 3) else offL u t r (c + if u then k else 1) (s + w)
def offOf (u : Bool) (l : List UInt8) (j t : Int) : Nat × Nat :=
  if j < 0 ∨ j ≥ (starts l).length then (0, 5) else offL u t (lnRunes l ((starts l).getD j.toNat 0)) 0 ((starts l).getD j.toNat 0)
theorem walkO_stop (u : Bool) (l : List UInt8) (t : Int) (i c : Nat) (h : ¬ ((c : Int) < t ∧ i < l.length ∧ lnC (l.getD i 0) = true)) : ∀ n, walkO u l t n i c = (i, c)
  | 0 => rfl
  | n + 1 => by simp only [walkO]; rw [if_neg h]
theorem offL_neg (u : Bool) (t : Int) (h : t < 0) : ∀ (rs : List R3) (c e : Nat), offL u t rs c e = (0, 1)
  | [], c, e => by simp only [offL]; rw [if_neg (by omega)]
  | (s, w, k) :: r, c, e => by
    simp only [offL]; rw [if_neg (by omega), if_neg (by omega)]
    exact offL_neg u t h r _ _
theorem ln_nil_iff (l : List UInt8) (p : Nat) : ln (l.drop p) ≠ [] ↔ p < l.length ∧ lnC (l.getD p 0) = true := by
  rcases Nat.lt_or_ge p l.length with h | h
  · have e : l.drop p = l.getD p 0 :: l.drop (p + 1) := by
      rw [List.drop_eq_getElem_cons h, List.getD_eq_getElem?_getD, List.getElem?_eq_getElem h]; rfl
    rw [e, ln_cons]
    split
    · rename_i hc; exact ⟨fun _ => ⟨h, hc⟩, fun _ => by simp⟩
    · rename_i hc; exact ⟨fun h0 => absurd rfl h0, fun h0 => absurd h0.2 hc⟩
  · rw [List.drop_eq_nil_iff.2 h]; simp [ln]; omega
theorem off_walk (u : Bool) (l : List UInt8) (t : Int) (ht : 0 ≤ t) : ∀ (n m p c : Nat), (c : Int) ≤ t → (ln (l.drop p)).length ≤ n → (ln (l.drop p)).length ≤ m →
    offL u t (rns m p (ln (l.drop p))) c p = endO t (walkO u l t n p c)
  | n, m, p, c, h1, h2, h3 => by
    by_cases hc : (c : Int) = t
    · rw [walkO_stop u l t p c (by omega)]
      have : endO t (p, c) = (p, 0) := by unfold endO; dsimp only; rw [if_neg (by omega), if_neg (by omega)]
      rw [this]
      cases m with
      | zero => simp only [rns, offL]; rw [if_pos hc]
      | succ m =>
        simp only [rns]
        split
        · simp only [offL]; rw [if_pos hc]
        · simp only [offL]; rw [if_pos hc]
    · by_cases hne : ln (l.drop p) ≠ []
      · have hi := (ln_nil_iff l p).1 hne
        have hpos := List.length_pos_iff.2 hne
        obtain ⟨n, rfl⟩ : ∃ k, n = k + 1 := ⟨n - 1, by omega⟩
        obtain ⟨m, rfl⟩ : ∃ k, m = k + 1 := ⟨m - 1, by omega⟩
        obtain ⟨e1, e2, e3, e4⟩ := ln_step hne
        simp only [rns, walkO]
        rw [if_neg hne, if_pos ⟨by omega, hi⟩, e1]
        simp only [offL]
        rw [if_neg hc, wd_un]
        generalize hr : (dec (l.drop p)).1 = rr
        have hw : 1 ≤ wd u rr ∧ wd u rr ≤ 2 ∧ (wd u rr = 2 ↔ (u = true ∧ un rr = 2)) := by
          unfold wd un; cases u <;> (simp <;> split <;> omega)
        by_cases hq : u = true ∧ un rr = 2 ∧ (c : Int) + 1 = t
        · rw [if_pos hq]
          have h22 := hw.2.2.2 ⟨hq.1, hq.2.1⟩
          rw [walkO_stop u l t _ _ (by rw [h22]; omega)]
          unfold endO; dsimp only
          rw [h22, if_neg (by omega), if_pos (by omega)]
        · rw [if_neg hq, ← e4]
          refine off_walk u l t ht n m _ _ ?_ ?_ ?_
          · have : ¬ (wd u rr = 2 ∧ (c : Int) + 1 = t) := fun hh => hq ⟨(hw.2.2.1 hh.1).1, (hw.2.2.1 hh.1).2, hh.2⟩
            omega
          · rw [e4, List.length_drop]; omega
          · rw [e4, List.length_drop]; omega
      · rw [walkO_stop u l t p c (fun h => hne ((ln_nil_iff l p).2 h.2))]
        have hnil : ln (l.drop p) = [] := Classical.not_not.1 hne
        have : rns m p (ln (l.drop p)) = [] := by cases m <;> simp [rns, hnil]
        rw [this]
        simp only [offL]; rw [if_neg hc]
        unfold endO; dsimp only; rw [if_pos (by omega)]
theorem off_eq (u : Bool) (l : List UInt8) (j t : Int) : offOf u l j t = toOff u l j t := by
  unfold offOf toOff
  by_cases hb : j < 0 ∨ j ≥ (starts l).length
  · rw [if_pos hb, if_pos hb]
  · rw [if_neg hb, if_neg hb]
    generalize (starts l).getD j.toNat 0 = p
    by_cases ht : t < 0
    · rw [offL_neg u t ht]; unfold endO; rw [if_pos (.inl ht)]
    · unfold lnRunes
      refine off_walk u l t (by omega) _ _ p 0 (by omega) ?_ (Nat.le_refl _)
      have h1 := runL_le lnC (l.drop p)
      rw [ln_len]; rw [List.length_drop] at h1; omega
end Go.Proofs.YtgphapkpoamcgaaDoor
