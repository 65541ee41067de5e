/- P1: joined from ZP1. -/
import Derived.Test.YtiediojibljpiaaVFnU
import Derived.Test.YtiediojibljpiaaVB5
/- The bindings as a substitution. -/
set_option maxRecDepth 10000
set_option linter.unusedSimpArgs false
set_option linter.unusedVariables false
namespace Go.Proofs.Ytiediojibljpiaa
open Go Go.Ab
def sgR : SB → Ty → Ty
  | [], u => u
  | (v, t) :: R, u => subT [⟨v, sgR R t⟩] (sgR R u)
def sg (L : SB) : Ty → Ty := sgR L.reverse
theorem sg_nil (u : Ty) : sg [] u = u := rfl
theorem sg_snoc (L : SB) (v : Int) (t u : Ty) : sg (L ++ [(v, t)]) u = subT [⟨v, sg L t⟩] (sg L u) := by
  simp [sg, sgR]
inductive WF : SB → Prop
  | nil : WF []
  | snoc {L : SB} {v : Int} {t : Ty} : WF L → lk L v = none → good t → occ v (sg L t) = false → (t.kd = 1 → lk L t.id = none ∧ t.id < v) → 0 ≤ v → WF (L ++ [(v, t)])
theorem lk_snoc : ∀ (L : SB) (v : Int) (t : Ty) (a : Int), lk (L ++ [(v, t)]) a = match lk L a with | some u => some u | none => if a = v then some t else none
  | [], v, t, a => by simp [lk]
  | (k, q) :: L, v, t, a => by
    simp only [List.cons_append, lk]
    by_cases h : a = k
    · simp [h]
    · simp [h, lk_snoc L v t a]
theorem insB_new : ∀ {L : SB} {v : Int} {t : Ty}, lk L v = none → insB L v t = L ++ [(v, t)]
  | [], v, t, _ => rfl
  | (k, q) :: L, v, t, h => by
    simp only [lk] at h
    split at h
    · cases h
    · rename_i hne
      simp only [insB, if_neg hne, List.cons_append, insB_new h]
theorem subT_app (s : List Bd) (t : Ty) (h : ¬ t.kd = 1) : subT s t = .mk t.kd t.id (t.args.map (subT s)) := by
  cases t with
  | mk k id ss =>
    simp only [Ty.kd] at h
    have hk : (k == 1) = false := by simpa using h
    simp only [subT, mapT, subG, Ty.kd, hk, Bool.false_eq_true, if_false, Ty.id, Ty.args, mapTL_map]
    rfl
theorem subT_hit (v : Int) (x t : Ty) (h : t.kd = 1) (hi : t.id = v) : subT [⟨v, x⟩] t = x := by
  cases t with
  | mk k id ss =>
    simp only [Ty.kd, Ty.id] at h hi
    subst h hi
    simp [subT, mapT, subG, Ty.kd, Ty.id, findB]
theorem subT_miss (v : Int) (x t : Ty) (h : t.kd = 1) (hi : ¬ t.id = v) : subT [⟨v, x⟩] t = .mk t.kd t.id (t.args.map (subT [⟨v, x⟩])) := by
  cases t with
  | mk k id ss =>
    simp only [Ty.kd, Ty.id] at h hi
    subst h
    have : ¬ v = id := fun e => hi e.symm
    simp [subT, mapT, subG, Ty.kd, Ty.id, findB, this, mapTL_map, Ty.args]
theorem sg_app (L : SB) : ∀ t : Ty, ¬ t.kd = 1 → sg L t = .mk t.kd t.id (t.args.map (sg L)) := by
  suffices h : ∀ (R : SB) (t : Ty), ¬ t.kd = 1 → sgR R t = .mk t.kd t.id (t.args.map (sgR R)) from fun t ht => h _ t ht
  intro R
  induction R with
  | nil => intro t ht; cases t; simp [sgR, Ty.kd, Ty.id, Ty.args]
  | cons x R ih =>
    obtain ⟨v, q⟩ := x
    intro t ht
    simp only [sgR]
    rw [ih t ht, subT_app _ _ (by simpa [Ty.kd] using ht)]
    simp [Ty.kd, Ty.id, Ty.args, sgR]
theorem sg_var {L : SB} (h : WF L) : ∀ t : Ty, t.kd = 1 → lk L t.id = none → (sg L t).kd = 1 ∧ (sg L t).id = t.id := by
  induction h with
  | nil => intro t h1 _; exact ⟨h1, rfl⟩
  | @snoc L v x hw hn hg ho hv h0 ih =>
    intro t h1 h2
    rw [lk_snoc] at h2
    cases hl : lk L t.id with
    | some u => rw [hl] at h2; cases h2
    | none =>
      rw [hl] at h2
      have hne : ¬ t.id = v := fun e => by simp [e] at h2
      obtain ⟨a, b⟩ := ih t h1 hl
      rw [sg_snoc, subT_miss v _ _ a (by rw [b]; exact hne)]
      exact ⟨a, b⟩
theorem sg_free {L : SB} (h : WF L) : ∀ t : Ty, good t → t.kd = 1 → lk L t.id = none → sg L t = t := by
  induction h with
  | nil => intro t _ _ _; rfl
  | @snoc L v x hw hn hg ho hv h0 ih =>
    intro t g h1 h2
    rw [lk_snoc] at h2
    cases hl : lk L t.id with
    | some u => rw [hl] at h2; cases h2
    | none =>
      rw [hl] at h2
      have hne : ¬ t.id = v := fun e => by simp [e] at h2
      rw [sg_snoc, ih t g h1 hl, subT_miss v _ _ h1 hne]
      obtain ⟨e, _⟩ := good_var g h1
      have ha : t.args = [] := by rw [e]; rfl
      rw [ha, h1, List.map_nil]; exact e.symm
theorem sg_bound {L : SB} (h : WF L) : ∀ t u : Ty, t.kd = 1 → lk L t.id = some u → sg L t = sg L u ∧ good u := by
  induction h with
  | nil => intro t u _ h; cases h
  | @snoc L v x hw hn hg ho hv h0 ih =>
    intro t u h1 h2
    rw [lk_snoc] at h2
    cases hl : lk L t.id with
    | some u' =>
      rw [hl] at h2
      cases h2
      obtain ⟨a, b⟩ := ih t _ h1 hl
      exact ⟨by rw [sg_snoc, sg_snoc, a], b⟩
    | none =>
      rw [hl] at h2
      simp only at h2
      split at h2
      · rename_i e
        cases h2
        obtain ⟨a, b⟩ := sg_var hw t h1 hl
        refine ⟨?_, hg⟩
        rw [sg_snoc, sg_snoc, subT_hit v _ _ a (b.trans e)]
        exact (sub_absent _ fun z hz => by simp only [List.mem_singleton] at hz; subst hz; exact ho).symm
      · cases h2
theorem wf_dec {L : SB} (h : WF L) : ∀ (a : Int) (u : Ty), lk L a = some u → (u.kd = 1 → u.id < a) ∧ 0 ≤ a ∧ good u := by
  induction h with
  | nil => intro a u h; cases h
  | @snoc L v x hw hn hg ho hv h0 ih =>
    intro a u h2
    rw [lk_snoc] at h2
    cases hl : lk L a with
    | some u' => rw [hl] at h2; cases h2; exact ih a _ hl
    | none =>
      rw [hl] at h2
      simp only at h2
      split at h2
      · rename_i e
        cases h2
        exact ⟨fun h => by rw [e]; exact (hv h).2, by rw [e]; exact h0, hg⟩
      · cases h2
theorem sg_hd {L : SB} (h : WF L) : ∀ (n : Nat) (t : Ty), good t → t.id.toNat < n → ∃ r, hdN (n + 1) L t = some r
  | 0, t, _, hn => absurd hn (by omega)
  | n + 1, t, g, hn => by
    rw [hdN]
    cases hk : (t.kd == 1) with
    | false => exact ⟨t, by simp⟩
    | true =>
      have hk1 : t.kd = 1 := by simpa using hk
      simp only [if_true]
      cases hl : lk L t.id with
      | none => exact ⟨t, rfl⟩
      | some u =>
        obtain ⟨a, b, c⟩ := wf_dec h _ _ hl
        by_cases hu : u.kd = 1
        · have hid := a hu
          have h0 := (good_var c hu).2
          exact sg_hd h n u c (by omega)
        · exact ⟨u, by simp only [hdN]; rw [if_neg (by simpa using hu)]⟩
theorem wf_Sg {L : SB} (h : WF L) : Sg L (sg L) :=
  ⟨sg_app L, sg_bound h, sg_free h, fun t g => let ⟨r, hr⟩ := sg_hd h (t.id.toNat + 1) t g (by omega); ⟨_, r, hr⟩⟩
end Go.Proofs.Ytiediojibljpiaa
