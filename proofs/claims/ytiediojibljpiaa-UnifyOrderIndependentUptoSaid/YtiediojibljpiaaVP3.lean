/- P3: joined from ZP3. -/
import Derived.Test.YtiediojibljpiaaVFnU
import Derived.Test.YtiediojibljpiaaVP2
/- What unify does to the bindings. -/
set_option maxRecDepth 10000
set_option linter.unusedSimpArgs false
set_option linter.unusedVariables false
namespace Go.Proofs.Ytiediojibljpiaa
open Go Go.Ab
def Ext (L L' : SB) : Prop := ∃ M, L' = L ++ M
theorem Ext.refl (L : SB) : Ext L L := ⟨[], by simp⟩
theorem Ext.trans {L L1 L2 : SB} (h : Ext L L1) (k : Ext L1 L2) : Ext L L2 := by
  obtain ⟨M, rfl⟩ := h; obtain ⟨M', rfl⟩ := k; exact ⟨M ++ M', by simp⟩
theorem lk_app : ∀ (L M : SB) (v : Int) (t : Ty), lk L v = some t → lk (L ++ M) v = some t
  | [], M, v, t, h => by cases h
  | (k, q) :: L, M, v, t, h => by
    simp only [lk, List.cons_append] at h ⊢
    split
    · rename_i e; rw [if_pos e] at h; exact h
    · rename_i e; rw [if_neg e] at h; exact lk_app L M v t h
theorem Ext.lk {L L' : SB} (h : Ext L L') {v : Int} {t : Ty} (e : lk L v = some t) : Go.Proofs.Ytiediojibljpiaa.lk L' v = some t := by
  obtain ⟨M, rfl⟩ := h; exact lk_app L M v t e
def Hom (θ : Ty → Ty) : Prop := ∀ t : Ty, ¬ t.kd = 1 → θ t = .mk t.kd t.id (t.args.map θ)
def Resp (θ : Ty → Ty) (L : SB) : Prop := ∀ v t, lk L v = some t → θ (.mk 1 v []) = θ t
theorem Resp.ext {θ : Ty → Ty} {L L' : SB} (h : Resp θ L') (e : Ext L L') : Resp θ L := fun v t hv => h v t (e.lk hv)
mutual
def neT : Ty → Bool
  | .mk k _ ss => !(k == 0) && neTL ss
def neTL : List Ty → Bool
  | [] => true
  | t :: ts => neT t && neTL ts
end
theorem neTL_mem : ∀ {ss : List Ty} {a : Ty}, neTL ss = true → a ∈ ss → neT a = true
  | [], a, _, h => by cases h
  | x :: ss, a, h, ha => by
    simp only [neTL, Bool.and_eq_true] at h
    rcases List.mem_cons.1 ha with rfl | ha
    · exact h.1
    · exact neTL_mem h.2 ha
theorem ne_mem {t a : Ty} (h : neT t = true) (ha : a ∈ t.args) : neT a = true := by
  cases t with
  | mk k id ss => simp only [neT, Bool.and_eq_true] at h; exact neTL_mem h.2 ha
theorem ne_kd {t : Ty} (h : neT t = true) : (t.kd == 0) = false := by
  cases t with
  | mk k id ss => simp only [neT, Bool.and_eq_true, Bool.not_eq_true'] at h; exact h.1
def neS (L : SB) : Prop := ∀ v t, lk L v = some t → neT t = true
theorem hd_ne {L : SB} (hL : neS L) : ∀ (n : Nat) (t r : Ty), neT t = true → hdN n L t = some r → neT r = true
  | 0, t, r, _, h => by cases h
  | n + 1, t, r, ht, h => by
    simp only [hdN] at h
    split at h
    · cases hl : lk L t.id with
      | none => rw [hl] at h; cases h; exact ht
      | some u => rw [hl] at h; exact hd_ne hL n u r (hL _ _ hl) h
    · cases h; exact ht
theorem hd_resp {θ : Ty → Ty} {L : SB} (hw : WF L) (hr : Resp θ L) : ∀ (n : Nat) (t r : Ty), good t → hdN n L t = some r → θ r = θ t
  | 0, t, r, _, h => by cases h
  | n + 1, t, r, hg, h => by
    simp only [hdN] at h
    split at h
    · rename_i hk
      have hk1 : t.kd = 1 := by simpa using hk
      cases hl : lk L t.id with
      | none => rw [hl] at h; cases h; rfl
      | some u =>
        rw [hl] at h
        obtain ⟨_, _, gu⟩ := wf_dec hw _ _ hl
        rw [hd_resp hw hr n u r gu h, ← hr _ _ hl, ← (good_var hg hk1).1]
    · cases h; rfl
theorem resp_snoc {θ : Ty → Ty} {L : SB} {v : Int} {t : Ty} (hn : lk L v = none) : Resp θ (L ++ [(v, t)]) ↔ Resp θ L ∧ θ (.mk 1 v []) = θ t := by
  constructor
  · intro h
    exact ⟨h.ext ⟨_, rfl⟩, h v t (by rw [lk_snoc, hn]; simp)⟩
  · rintro ⟨h1, h2⟩ a u ha
    rw [lk_snoc] at ha
    cases hl : lk L a with
    | some u' => rw [hl] at ha; cases ha; exact h1 a _ hl
    | none =>
      rw [hl] at ha
      simp only at ha
      split at ha
      · rename_i e; cases ha; rw [e]; exact h2
      · cases ha
theorem neS_snoc {L : SB} {v : Int} {t : Ty} (h : neS L) (ht : neT t = true) : neS (L ++ [(v, t)]) := fun a u ha => by
  rw [lk_snoc] at ha
  cases hl : lk L a with
  | some u' => rw [hl] at ha; cases ha; exact h a _ hl
  | none =>
    rw [hl] at ha
    simp only at ha
    split at ha
    · cases ha; exact ht
    · cases ha
/-! substitutions keep types well formed, homomorphisms go through them -/
mutual
theorem subT_wf {s : List Bd} (hs : ∀ b ∈ s, wfT b.t = true) : ∀ t : Ty, wfT t = true → wfT (subT s t) = true
  | .mk k id ss, h => by
    have hL := subTL_wf hs ss
    have hm : ∀ a ∈ ss, wfT a = true := wfT_mem h
    simp only [subT, mapT]
    by_cases hb : (subG s (.mk k id ss)).2 = true
    · rw [if_pos hb]
      simp only [subG] at hb ⊢
      by_cases hk : ((Ty.mk k id ss).kd == 1) = true
      · rw [if_pos hk] at hb ⊢
        cases hf : findB s (Ty.mk k id ss).id with
        | none => rw [hf] at hb; cases hb
        | some t => exact findB_wf hs hf
      · rw [if_neg hk] at hb; cases hb
    · rw [if_neg hb]
      simp only [wfT, mapTL_len] at h ⊢
      split at h
      · rename_i hn; rw [if_pos hn]; exact hL h
      · cases h
theorem subTL_wf {s : List Bd} (hs : ∀ b ∈ s, wfT b.t = true) : ∀ ts : List Ty, wfTL ts = true → wfTL (mapTL (subG s) ts) = true
  | [], _ => rfl
  | t :: ts, h => by
    simp only [wfTL, mapTL] at h ⊢
    split at h
    · rename_i ht
      have := subT_wf hs t ht
      rw [subT] at this
      rw [if_pos this]; exact subTL_wf hs ts h
    · cases h
theorem findB_wf {s : List Bd} (hs : ∀ b ∈ s, wfT b.t = true) {v : Int} {t : Ty} (h : findB s v = some t) : wfT t = true := by
  induction s with
  | nil => cases h
  | cons b s ih =>
    simp only [findB] at h
    split at h
    · cases h; exact hs b (by simp)
    · exact ih (fun c hc => hs c (by simp [hc])) h
end
theorem sg_wf {L : SB} (hw : WF L) : ∀ t : Ty, wfT t = true → wfT (sg L t) = true := by
  induction hw with
  | nil => intro t h; exact h
  | @snoc L v x hw hn hg ho hv h0 ih =>
    intro t h
    rw [sg_snoc]
    exact subT_wf (fun b hb => by simp only [List.mem_singleton] at hb; subst hb; exact ih x hg.1) _ (ih t h)
mutual
theorem hom_sub {θ : Ty → Ty} (hθ : Hom θ) {v : Int} {x0 : Ty} (h0 : θ (.mk 1 v []) = θ x0) : ∀ x : Ty, wfT x = true → θ (subT [⟨v, x0⟩] x) = θ x
  | .mk k id ss, h => by
    by_cases hk : k = 1
    · obtain ⟨e, _⟩ := wfT_var h (by simpa [Ty.kd] using hk)
      simp only [Ty.id] at e
      rw [e]
      by_cases hi : id = v
      · rw [subT_hit v x0 (.mk 1 id []) rfl hi, ← h0, hi]
      · rw [subT_miss v x0 (.mk 1 id []) rfl hi]; rfl
    · rw [subT_app _ _ (by simpa [Ty.kd] using hk), hθ _ (by simpa [Ty.kd] using hk), hθ (.mk k id ss) (by simpa [Ty.kd] using hk)]
      simp only [Ty.kd, Ty.id, Ty.args, List.map_map]
      congr 1
      exact hom_subL hθ h0 ss (wfT_mem h)
theorem hom_subL {θ : Ty → Ty} (hθ : Hom θ) {v : Int} {x0 : Ty} (h0 : θ (.mk 1 v []) = θ x0) : ∀ xs : List Ty, (∀ a ∈ xs, wfT a = true) → xs.map (θ ∘ subT [⟨v, x0⟩]) = xs.map θ
  | [], _ => rfl
  | x :: xs, h => by
    simp only [List.map_cons, Function.comp]
    rw [hom_sub hθ h0 x (h x (by simp)), hom_subL hθ h0 xs fun a ha => h a (by simp [ha])]
end
theorem hom_sg {θ : Ty → Ty} (hθ : Hom θ) {L : SB} (hw : WF L) : Resp θ L → ∀ t, wfT t = true → θ (sg L t) = θ t := by
  induction hw with
  | nil => intro _ t _; rfl
  | @snoc L v x hw hn hg ho hv h0 ih =>
    intro hr t ht
    obtain ⟨h1, h2⟩ := (resp_snoc hn).1 hr
    rw [sg_snoc, hom_sub hθ (by rw [ih h1 x hg.1]; exact h2) _ (sg_wf hw t ht), ih h1 t ht]
/-- a variable stands for less than what it occurs in -/
theorem occ_le {θ : Ty → Ty} (hθ : Hom θ) {v : Int} : ∀ (N : Nat) (u : Ty), nds u ≤ N → wfT u = true → occ v u = true → nds (θ (.mk 1 v [])) ≤ nds (θ u) ∧ (¬ u.kd = 1 → nds (θ (.mk 1 v [])) < nds (θ u))
  | 0, u, h, _, _ => by have := nds_pos u; omega
  | N + 1, u, hN, hw, ho => by
    by_cases hk : u.kd = 1
    · obtain ⟨e, _⟩ := wfT_var hw hk
      rw [e] at ho
      simp [occ, occL] at ho
      refine ⟨by rw [e, ho]; exact Nat.le_refl _, fun h => absurd hk h⟩
    · have hlt : nds (θ (.mk 1 v [])) < nds (θ u) := by
        have hk' : (u.kd == 1) = false := by simpa using hk
        cases u with
        | mk k id ss =>
          simp only [Ty.kd] at hk'
          simp only [occ, hk', Bool.false_and, Bool.false_or] at ho
          have : ∃ a ∈ ss, occ v a = true := by
            have h2 := occL_map (v := v) (σ := fun t => t) ss
            simp only [List.map_id'] at h2
            rw [h2, List.any_eq_true] at ho
            exact ho
          obtain ⟨a, ha, hoa⟩ := this
          have h1 := (occ_le hθ N a (by have := nds_memT ha; simp only [nds] at hN; omega) (wfT_mem hw a ha) hoa).1
          rw [hθ _ hk]
          have h2 := nds_memS (σ := θ) ha
          simp only [nds, Ty.args]
          omega
      exact ⟨Nat.le_of_lt hlt, fun _ => hlt⟩
end Go.Proofs.Ytiediojibljpiaa
