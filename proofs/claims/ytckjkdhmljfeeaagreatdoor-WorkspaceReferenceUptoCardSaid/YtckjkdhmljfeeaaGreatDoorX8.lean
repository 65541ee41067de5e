/- X8: joined from XE8. -/
import Derived.Test.YtckjkdhmljfeeaaGreatDoorX7
/- Regions that draw their order, cell by cell: the theory; what two operations touch. -/
set_option linter.unusedVariables false
set_option linter.unusedSimpArgs false
namespace Go.Ev
open Go Go.RowKit
open Go.Ab (Path clos ahead ahead_spec)
inductive Loc where
  | slot (t : Nat)
  | hdr (b : Nat)
  | cell (b i : Nat)
  deriving DecidableEq
inductive Cnt where
  | x (v : X)
  | h (o : Option (Bool × TypeId × Nat))
  | c (o : Option X)
abbrev Sta := Loc → Cnt
abbrev Wr := Loc → Option Cnt
def wapp (σ : Sta) (w : Wr) : Sta := fun l => match w l with
  | some c => c
  | none => σ l
def run (ws : Nat → Wr) (D : Nat → Bool) (σ : Sta) : Nat → Sta
  | 0 => σ
  | n + 1 => if D n then wapp (run ws D σ n) (ws n) else run ws D σ n
theorem wapp_not {w : Wr} {σ : Sta} {l : Loc} (h : w l = none) : wapp σ w l = σ l := by simp [wapp, h]
theorem wapp_key {w : Wr} {σ σ' : Sta} {l : Loc} (h : w l ≠ none) : wapp σ w l = wapp σ' w l := by
  unfold wapp
  cases hw : w l with
  | none => exact absurd hw h
  | some c => rfl
theorem wapp_congr {w : Wr} {σ σ' : Sta} {l : Loc} (h : σ l = σ' l) : wapp σ w l = wapp σ' w l := by unfold wapp; split <;> simp [h]
theorem run_same {ws : Nat → Wr} {D D' : Nat → Bool} {σ : Sta} {l : Loc} : ∀ (n : Nat), (∀ j, j < n → ws j l ≠ none → D j = D' j) → run ws D σ n l = run ws D' σ n l
  | 0, _ => rfl
  | n + 1, h => by
    have ih := run_same (σ := σ) n fun j hj => h j (by omega)
    simp only [run]
    by_cases hl : ws n l = none
    · split <;> split <;> first | exact wapp_congr ih | (rw [wapp_not hl]; exact ih) | (rw [ih, wapp_not hl]) | exact ih
    · rw [h n (by omega) hl]
      split
      · exact wapp_key hl
      · exact ih
theorem run_stop {ws : Nat → Wr} {D : Nat → Bool} {σ : Sta} {l : Loc} {i : Nat} : ∀ (n : Nat), i ≤ n → (∀ j, i ≤ j → j < n → D j = true → ws j l = none) → run ws D σ n l = run ws D σ i l
  | 0, h, _ => by have : i = 0 := by omega
                  subst this; rfl
  | n + 1, h, hn => by
    by_cases he : i = n + 1
    · subst he; rfl
    · simp only [run]
      split
      · rename_i hd
        rw [wapp_not (hn n (by omega) (by omega) hd)]; exact run_stop n (by omega) fun j h1 h2 => hn j h1 (by omega)
      · exact run_stop n (by omega) fun j h1 h2 => hn j h1 (by omega)
theorem run_le {ws : Nat → Wr} {D D' : Nat → Bool} {σ : Sta} {i : Nat} (h : ∀ j, j < i → D j = D' j) : run ws D σ i = run ws D' σ i := by
  induction i with
  | zero => rfl
  | succ i ih => simp only [run]; rw [ih fun j hj => h j (by omega), h i (by omega)]
/-- what the check gives -/
structure Ind (n : Nat) (edges : List (List Nat)) (ws : Nat → Wr) (tch : Nat → Loc → Prop) : Prop where
  len : edges.length = n
  low : ∀ i, i < n → ∀ e ∈ edges.getD i [], e < i
  sub : ∀ i, i < n → ∀ l, ws i l ≠ none → tch i l
  ord : ∀ i j, i < n → j < i → (∃ l, (ws j l ≠ none ∧ tch i l) ∨ (ws i l ≠ none ∧ tch j l)) → Path edges j i
section
variable {n : Nat} {edges : List (List Nat)} {ws : Nat → Wr} {tch : Nat → Loc → Prop} {σ : Sta} {D : Nat → Bool}
theorem found (hi : Ind n edges ws tch) (hD : ∀ i j, D i = true → j ∈ edges.getD i [] → D j = true) {i : Nat} (hilt : i < n)
    (hun : D i = false) (hready : ∀ e ∈ edges.getD i [], D e = true) {l : Loc} (hl : tch i l) : run ws D σ n l = run ws (fun _ => true) σ i l := by
  have key : ∀ j, j < n → ws j l ≠ none → (D j = true ↔ j < i) := fun j hj hlj => by
    rcases Nat.lt_trichotomy j i with h | h | h
    · exact ⟨fun _ => h, fun _ => (hi.ord i j hilt h ⟨l, .inl ⟨hlj, hl⟩⟩).done hD hready⟩
    · subst h; rw [hun]; simp
    · refine ⟨fun hd => ?_, fun h' => by omega⟩
      have := (hi.ord j i hj h ⟨l, .inr ⟨hlj, hl⟩⟩).closed hD hd
      rw [hun] at this; cases this
  rw [run_stop (i := i) n (by omega) fun j h1 h2 hd => ?_]
  · exact run_same i fun j hj hlj => by
      have := (key j (by omega) hlj).2 hj
      rw [this]
  · cases hw : ws j l with
    | none => rfl
    | some c => have := (key j h2 (by rw [hw]; simp)).1 hd; omega
theorem stepped (hi : Ind n edges ws tch) (hD : ∀ i j, D i = true → j ∈ edges.getD i [] → D j = true) {i : Nat} (hilt : i < n)
    (hun : D i = false) (l : Loc) : wapp (run ws D σ n) (ws i) l = run ws (fun j => D j || j == i) σ n l := by
  by_cases hl : ws i l = none
  · rw [wapp_not hl]
    exact run_same n fun j hj hlj => by
      have : j ≠ i := by rintro rfl; exact hlj hl
      simp [this]
  · have hlt : tch i l := hi.sub i hilt l hl
    rw [run_stop (D := fun j => D j || j == i) (i := i + 1) n (by omega) fun j h1 h2 hd => ?_]
    · simp only [run, beq_self_eq_true, Bool.or_true, if_true]
      exact wapp_key hl
    · cases hw : ws j l with
      | none => rfl
      | some c =>
        have hdj : D j = true := by
          simp only [Bool.or_eq_true, beq_iff_eq] at hd
          rcases hd with hd | hd
          · exact hd
          · omega
        have := (hi.ord j i h2 (by omega) ⟨l, .inr ⟨by rw [hw]; simp, hlt⟩⟩).closed hD hdj
        rw [hun] at this; cases this
end
/-! ### states as places -/
def staOf (f : Nat → X) (h : HF) : Sta
  | .slot t => .x (f t)
  | .hdr b => .h ((h b).map hdr)
  | .cell b i => .c (cellOf h b i)
theorem blk_ext {h h2 : HF} {b : Nat} (h1 : (h2 b).map hdr = (h b).map hdr) (hc : ∀ i, cellOf h2 b i = cellOf h b i) : h2 b = h b := by
  cases e1 : h b with
  | none => rw [e1] at h1; simpa using h1
  | some k =>
    cases e2 : h2 b with
    | none => rw [e1, e2] at h1; simp at h1
    | some k2 =>
      rw [e1, e2] at h1
      simp only [Option.map_some, Option.some.injEq, hdr, Prod.mk.injEq] at h1
      have hx : k2.xs = k.xs := List.ext_getElem? fun i => by
        have := hc i
        simpa [cellOf, e1, e2] using this
      cases k; cases k2
      simp only at h1 hx
      rw [h1.1, h1.2.1, hx]
theorem staOf_inj {f f2 : Nat → X} {h h2 : HF} (e : staOf f2 h2 = staOf f h) : f2 = f ∧ h2 = h := by
  refine ⟨funext fun t => ?_, funext fun b => blk_ext ?_ fun i => ?_⟩
  · have := congrFun e (.slot t); simpa [staOf] using this
  · have := congrFun e (.hdr b); simpa only [staOf, Cnt.h.injEq] using this
  · have := congrFun e (.cell b i); simpa only [staOf, Cnt.c.injEq] using this
/-- what is written: by an operation; by a call -/
def wrE : Ef → Wr
  | .nop, _ => none
  | .put b off vs, .cell b' i => if b' = b ∧ off ≤ i ∧ i < off + vs.length then some (.c vs[i - off]?) else none
  | .put _ _ _, _ => none
  | .new nb k, .hdr b => if b = nb then some (.h (some (hdr k))) else none
  | .new nb k, .cell b i => if b = nb then some (.c k.xs[i]?) else none
  | .new _ _, _ => none
  | .mv b0 nb k, .hdr b => if b = nb then some (.h (some (hdr k))) else if b = b0 then some (.h none) else none
  | .mv b0 nb k, .cell b i => if b = nb then some (.c k.xs[i]?) else if b = b0 then some (.c none) else none
  | .mv _ _ _, _ => none
open Classical in
noncomputable def wrH (h h' : HF) : Wr := fun l => match l with
  | .slot _ => none
  | l => if staOf (fun _ => .junk) h l = staOf (fun _ => .junk) h' l then none else some (staOf (fun _ => .junk) h' l)
def wrS (d : Option Nat) (v : X) (w : Wr) : Wr := fun l => match l with
  | .slot t => match d with
    | some d => if t = d then some (.x v) else none
    | none => none
  | l => w l
/-- cells that a store writes lie in the block -/
def Ef.fits (e : Ef) (h : HF) : Prop := match e with
  | .put b off vs => ∃ k, h b = some k ∧ off + vs.length ≤ k.xs.length
  | _ => True
theorem wrE_ok {e : Ef} {f : Nat → X} {h : HF} (hf : e.fits h) : staOf f (e.app h) = wapp (staOf f h) (wrE e) := by
  funext l
  cases e with
  | nop => cases l <;> rfl
  | put b off vs =>
    obtain ⟨k, hk, hle⟩ := hf
    have hlen := spl_len hle
    cases l with
    | slot t => rfl
    | hdr b' =>
      simp only [staOf, Ef.app, hk, wapp, wrE]
      by_cases hb : b' = b
      · subst hb; rw [upd_same]; simp [hk, hdr, hlen]
      · rw [upd_other _ _ hb]
    | cell b' i =>
      simp only [staOf, Ef.app, hk, wapp, wrE, cellOf]
      by_cases hb : b' = b
      · subst hb
        rw [upd_same]
        simp only [Option.bind_some, spl_get hle, true_and, hk]
        split <;> rfl
      · rw [upd_other _ _ hb, if_neg (by simp [hb])]
  | new nb k =>
    cases l with
    | slot t => rfl
    | hdr b' =>
      simp only [staOf, Ef.app, wapp, wrE]
      by_cases hb : b' = nb
      · subst hb; rw [upd_same]; simp
      · rw [upd_other _ _ hb]; simp [hb]
    | cell b' i =>
      simp only [staOf, Ef.app, wapp, wrE, cellOf]
      by_cases hb : b' = nb
      · subst hb; rw [upd_same]; simp
      · rw [upd_other _ _ hb]; simp [hb]
  | mv b0 nb k =>
    cases l with
    | slot t => rfl
    | hdr b' =>
      simp only [staOf, Ef.app, wapp, wrE]
      by_cases hb : b' = nb
      · subst hb; rw [upd_same]; simp
      · rw [upd_other _ _ hb]
        by_cases hb0 : b' = b0
        · subst hb0; rw [upd_same]; simp [hb]
        · rw [upd_other _ _ hb0]; simp [hb, hb0]
    | cell b' i =>
      simp only [staOf, Ef.app, wapp, wrE, cellOf]
      by_cases hb : b' = nb
      · subst hb; rw [upd_same]; simp
      · rw [upd_other _ _ hb]
        by_cases hb0 : b' = b0
        · subst hb0; rw [upd_same]; simp [hb]
        · rw [upd_other _ _ hb0]; simp [hb, hb0]
theorem wrH_ok {f : Nat → X} {h h' : HF} : staOf f h' = wapp (staOf f h) (wrH h h') := by
  funext l
  cases l with
  | slot t => rfl
  | hdr b =>
    simp only [wapp, wrH]
    by_cases e : staOf (fun _ => .junk) h (.hdr b) = staOf (fun _ => .junk) h' (.hdr b)
    · rw [if_pos e]; simpa [staOf] using e.symm
    · rw [if_neg e]; rfl
  | cell b i =>
    simp only [wapp, wrH]
    by_cases e : staOf (fun _ => .junk) h (.cell b i) = staOf (fun _ => .junk) h' (.cell b i)
    · rw [if_pos e]; simpa [staOf] using e.symm
    · rw [if_neg e]; rfl
theorem wrS_ok {d : Option Nat} {v : X} {w : Wr} {f : Nat → X} {h h' : HF} (hw : staOf f h' = wapp (staOf f h) w) : staOf (fput d v f) h' = wapp (staOf f h) (wrS d v w) := by
  funext l
  cases l with
  | slot t =>
    simp only [staOf, wapp, wrS, fput]
    cases d with
    | none => rfl
    | some d =>
      simp only
      by_cases ht : t = d
      · simp [ht]
      · simp [ht]
  | hdr b => have := congrFun hw (.hdr b); simpa [staOf, wapp, wrS] using this
  | cell b i => have := congrFun hw (.cell b i); simpa [staOf, wapp, wrS] using this
end Go.Ev
