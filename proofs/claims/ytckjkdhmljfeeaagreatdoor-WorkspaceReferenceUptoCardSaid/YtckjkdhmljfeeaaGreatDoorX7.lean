/- X7: joined from XE7. -/
import Derived.Test.YtckjkdhmljfeeaaGreatDoorX6
/- Tries; one operation as a step: what it needs, what it leaves. -/
set_option linter.unusedVariables false
set_option linter.unusedSimpArgs false
namespace Go.Ev
open Go Go.RowKit
/-- a table by number -/
inductive T (α : Type) where
  | e
  | n (v : Option α) (l r : T α)
def T.get {α : Type} : T α → Nat → Option α
  | .e, _ => none
  | .n v l r, k => match k with
    | 0 => v
    | k + 1 => match Nat.beq (k % 2) 0 with
      | true => l.get (k / 2)
      | false => r.get (k / 2)
def T.put {α : Type} : Nat → T α → Nat → Option α → T α
  | 0, t, _, _ => t
  | d + 1, .e, k, x => match k with
    | 0 => .n x .e .e
    | k + 1 => match Nat.beq (k % 2) 0 with
      | true => .n none (T.put d .e (k / 2) x) .e
      | false => .n none .e (T.put d .e (k / 2) x)
  | d + 1, .n v l r, k, x => match k with
    | 0 => .n x l r
    | k + 1 => match Nat.beq (k % 2) 0 with
      | true => .n v (T.put d l (k / 2) x) r
      | false => .n v l (T.put d r (k / 2) x)
theorem beq_t {a b : Nat} : Nat.beq a b = true ↔ a = b := ⟨Nat.eq_of_beq_eq_true, fun h => by subst h; exact Nat.beq_refl a⟩
theorem beq_f {a b : Nat} : Nat.beq a b = false ↔ ¬ a = b := by
  rw [← beq_t]; cases Nat.beq a b <;> simp
theorem T.get_e {α : Type} (j : Nat) : (T.e : T α).get j = none := by cases j <;> rfl
theorem T.get_put {α : Type} : ∀ (d : Nat) (t : T α) (i j : Nat) (x : Option α), i + 1 < 2 ^ d → (T.put d t i x).get j = if j = i then x else t.get j
  | 0, t, i, j, x, h => by simp at h
  | d + 1, .e, 0, j, x, h => by
    cases j with
    | zero => simp [T.put, T.get]
    | succ j => simp only [T.put, T.get]; split <;> simp [T.get_e]
  | d + 1, .e, i + 1, j, x, h => by
    have hd : i / 2 + 1 < 2 ^ d := by rw [Nat.pow_succ] at h; omega
    have ih := fun m => T.get_put d (.e : T α) (i / 2) m x hd
    simp only [T.get_e] at ih
    cases j with
    | zero =>
      simp only [T.put]
      split <;> simp [T.get]
    | succ j =>
      simp only [T.put, T.get_e]
      split
      · rename_i hi
        have hi := beq_t.1 hi
        simp only [T.get]
        split
        · rename_i hj
          have hj := beq_t.1 hj
          rw [ih]
          by_cases hji : j = i
          · subst hji; simp
          · rw [if_neg (by omega), if_neg (by omega)]
        · rename_i hj
          have hj := beq_f.1 hj
          rw [if_neg (by omega)]
      · rename_i hi
        have hi := beq_f.1 hi
        simp only [T.get]
        split
        · rename_i hj
          have hj := beq_t.1 hj
          rw [if_neg (by omega)]
        · rename_i hj
          have hj := beq_f.1 hj
          rw [ih]
          by_cases hji : j = i
          · subst hji; simp
          · rw [if_neg (by omega), if_neg (by omega)]
  | d + 1, .n v l r, 0, j, x, h => by
    cases j with
    | zero => simp [T.put, T.get]
    | succ j => simp only [T.put, T.get]; rw [if_neg (by omega)]
  | d + 1, .n v l r, i + 1, j, x, h => by
    have hd : i / 2 + 1 < 2 ^ d := by rw [Nat.pow_succ] at h; omega
    have ihl := fun m => T.get_put d l (i / 2) m x hd
    have ihr := fun m => T.get_put d r (i / 2) m x hd
    cases j with
    | zero =>
      simp only [T.put]
      split <;> simp [T.get]
    | succ j =>
      simp only [T.put]
      split
      · rename_i hi
        have hi := beq_t.1 hi
        simp only [T.get]
        split
        · rename_i hj
          have hj := beq_t.1 hj
          rw [ihl]
          by_cases hji : j = i
          · subst hji; simp
          · rw [if_neg (by omega), if_neg (by omega)]
        · rename_i hj
          have hj := beq_f.1 hj
          rw [if_neg (by omega)]
      · rename_i hi
        have hi := beq_f.1 hi
        simp only [T.get]
        split
        · rename_i hj
          have hj := beq_t.1 hj
          rw [if_neg (by omega)]
        · rename_i hj
          have hj := beq_f.1 hj
          rw [ihr]
          by_cases hji : j = i
          · subst hji; simp
          · rw [if_neg (by omega), if_neg (by omega)]
abbrev dpt : Nat := 24
abbrev lim : Nat := 1000000
theorem get_put {α : Type} {t : T α} {i j : Nat} {x : Option α} (h : i ≤ lim) : (T.put dpt t i x).get j = if j = i then x else t.get j := T.get_put dpt t i j x (by unfold lim at h; unfold dpt; omega)
/-- a frame's values, a heap's blocks -/
def fD (F : T X) : Nat → X := fun t => match F.get t with
  | some x => x
  | none => .v undef
def hD (H : T Blk) : HF := fun b => H.get b
def fput (d : Option Nat) (v : X) (f : Nat → X) : Nat → X := match d with
  | some d => fun t => if t = d then v else f t
  | none => f
def putD (N : Nat) (d : Option Nat) (v : X) (F : T X) : Option (T X) := match d with
  | none => some F
  | some d => match Nat.ble (d + 1) N && Nat.ble d lim with
    | true => some (T.put dpt F d (some v))
    | false => none
theorem putD_ok {N : Nat} {d : Option Nat} {v : X} {F F' : T X} (h : putD N d v F = some F') : fD F' = fput d v (fD F) ∧ ∀ x, d = some x → x < N := by
  unfold putD at h
  cases d with
  | none => simp only [Option.some.injEq] at h; subst h; exact ⟨rfl, fun x hx => by cases hx⟩
  | some d =>
    simp only at h
    split at h
    · rename_i hc
      simp only [Option.some.injEq] at h; subst h
      rw [Bool.and_eq_true] at hc
      have h1 := Nat.le_of_ble_eq_true hc.1
      have h2 := Nat.le_of_ble_eq_true hc.2
      refine ⟨?_, fun x hx => by cases hx; omega⟩
      funext t
      simp only [fD, fput, get_put h2]
      by_cases ht : t = d
      · simp [ht]
      · simp [ht]
    · cases h
/-- the blocks behind an operation -/
def Ef.run : Ef → T Blk → Option (T Blk)
  | .nop, H => some H
  | .put b off vs, H => match Nat.ble b lim with
    | true => match H.get b with
      | some k => some (T.put dpt H b (some { k with xs := spl k.xs off vs }))
      | none => none
    | false => none
  | .new nb k, H => match Nat.ble nb lim with
    | true => some (T.put dpt H nb (some k))
    | false => none
  | .mv b nb k, H => match Nat.ble nb lim && Nat.ble b lim with
    | true => some (T.put dpt (T.put dpt H b none) nb (some k))
    | false => none
theorem Ef.run_ok {e : Ef} {H H' : T Blk} (h : e.run H = some H') : hD H' = e.app (hD H) := by
  cases e with
  | nop => simp only [Ef.run, Option.some.injEq] at h; subst h; rfl
  | put b off vs =>
    simp only [Ef.run] at h
    split at h
    case h_2 => cases h
    rename_i hb
    split at h
    case h_2 => cases h
    rename_i k hk
    simp only [Option.some.injEq] at h; subst h
    have hb := Nat.le_of_ble_eq_true hb
    funext x
    have hk' : hD H b = some k := hk
    simp only [Ef.app, upd, hk']
    show (T.put dpt H b _).get x = _
    rw [get_put hb]; rfl
  | new nb k =>
    simp only [Ef.run] at h
    split at h
    case h_2 => cases h
    rename_i hb
    simp only [Option.some.injEq] at h; subst h
    have hb := Nat.le_of_ble_eq_true hb
    funext x
    show (T.put dpt H nb _).get x = _
    rw [get_put hb]; rfl
  | mv b nb k =>
    simp only [Ef.run] at h
    split at h
    case h_2 => cases h
    rename_i hb
    simp only [Option.some.injEq] at h; subst h
    rw [Bool.and_eq_true] at hb
    have h1 := Nat.le_of_ble_eq_true hb.1
    have h2 := Nat.le_of_ble_eq_true hb.2
    funext x
    show (T.put dpt (T.put dpt H b none) nb _).get x = _
    rw [get_put h1, get_put h2]; rfl
/-- names of an interval are added -/
def SI (S : Nat → Prop) (nb nb' : Nat) : Nat → Prop := fun b => S b ∨ nb ≤ b ∧ b < nb'
/-- a step -/
def Stp (P : Program) (ng : Nat) (o : Oper) (f : Nat → X) (v : X) (Tr : HF → HF) (Agr : HF → Prop) (nb nb' : Nat) : Prop :=
  ∀ n0 N S M f2 h2 a w, St n0 ng N S M f2 h2 a w → (∀ x ∈ o.op.operands.toList, evX ng f2 x = evX ng f x) → Agr h2 → (∀ b, nb ≤ b → b < nb' → ¬ S b) → ∀ (Kn : Act → World → Prop) (Q : Exit → Act → World → Prop),
    (∀ u w' M', Nm.le S M M' → XRel n0 (SI S nb nb') M' (Tr h2) w' → Below n0 w w' → RX M' v u → v.bd (SI S nb nb') → Kn (a.put o.dst u) w') → o.wp P a w Kn Q
theorem stp_of_snd {P : Program} {ng nb : Nat} {f : Nat → X} {h : HF} {o : Oper} {out : Out} (hs : Snd P ng o f h nb out) : Stp P ng o f out.v out.ef.app (agr out.rd h) nb (nb + out.ef.cnt) := by
  intro n0 N S M f2 h2 a w st hx ha hn Kn Q hk
  obtain ⟨u, w', M', hr, h1, h3, h4, h5, h6⟩ := hs n0 N S M f2 h2 a w st hx ha fun e => hn nb (Nat.le_refl _) (by omega)
  have hS : ∀ b, eS out.ef S nb b → SI S nb (nb + out.ef.cnt) b := fun b hb => by
    cases e : out.ef with
    | nop => rw [e] at hb; exact .inl hb
    | put _ _ _ => rw [e] at hb; exact .inl hb
    | new _ _ =>
      rw [e] at hb
      rcases hb with hb | rfl
      · exact .inl hb
      · exact .inr ⟨Nat.le_refl _, Nat.lt_succ_self _⟩
    | mv _ _ _ =>
      rw [e] at hb
      rcases hb with hb | rfl
      · exact .inl hb
      · exact .inr ⟨Nat.le_refl _, Nat.lt_succ_self _⟩
  have hK := hk u w' M' h1 (h3.monoS hS) h4 h5 (bd_mono hS _ h6)
  unfold Oper.wp
  rcases hr with hr | ⟨hr, rfl⟩
  · rw [hr]; exact hK
  · rw [hr]; exact hK
end Go.Ev
