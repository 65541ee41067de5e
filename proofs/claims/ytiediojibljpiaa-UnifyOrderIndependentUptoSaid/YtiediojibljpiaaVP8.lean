/- P8: joined from ZP8. -/
import Derived.Test.YtiediojibljpiaaVFnU
import Derived.Test.YtiediojibljpiaaVW1
/- The unifier is one: canonical bindings; the laws' example. -/
set_option maxRecDepth 10000
set_option linter.unusedSimpArgs false
set_option linter.unusedVariables false
namespace Go.Proofs.Ytiediojibljpiaa
open Go Go.Ab
theorem sg_down {L : SB} (hw : WF L) : ∀ (v x : Int), 0 ≤ v → sg L (.mk 1 v []) = .mk 1 x [] → x ≤ v := by
  induction hw with
  | nil => intro v x _ h; simp only [sg_nil, Ty.mk.injEq] at h; omega
  | @snoc L a t hw hn hg ho hv h0 ih =>
    intro v x hv0 h
    rw [sg_snoc] at h
    have hwt : wfT (sg L (.mk 1 v [])) = true := sg_wf hw _ (by simp [wfT, nwf, wfTL, hv0])
    by_cases hk : (sg L (.mk 1 v [])).kd = 1
    · obtain ⟨e, y0⟩ := wfT_var hwt hk
      have h1 := ih v _ hv0 e
      by_cases hy : (sg L (.mk 1 v [])).id = a
      · rw [subT_hit a _ _ hk hy] at h
        by_cases ht : t.kd = 1
        · obtain ⟨l1, l2⟩ := hv ht
          rw [sg_free hw t hg ht l1] at h
          rw [h] at l2
          simp only [Ty.id] at l2
          omega
        · rw [sg_app L t ht] at h
          simp only [Ty.mk.injEq] at h
          exact absurd h.1 ht
      · rw [subT_miss a _ _ hk hy] at h
        simp only [Ty.mk.injEq] at h
        omega
    · rw [subT_app _ _ hk] at h
      simp only [Ty.mk.injEq] at h
      exact absurd h.1 hk
theorem occ_sg {L : SB} (hw : WF L) : ∀ {v : Int} {t : Ty}, lk L v = some t → ∀ u, occ v (sg L u) = false := by
  induction hw with
  | nil => intro v t h; cases h
  | @snoc L a x hw hn hg ho hv h0 ih =>
    intro v t h u
    rw [sg_snoc]
    cases hoc : occ v (subT [⟨a, sg L x⟩] (sg L u)) with
    | false => rfl
    | true =>
      rw [lk_snoc] at h
      rcases occ_sub (sg L u) hoc with h1 | ⟨h1, h2⟩
      · cases hl : lk L v with
        | some y => rw [ih hl x] at h1; cases h1
        | none =>
          rw [hl] at h
          simp only at h
          split at h
          · rename_i e; rw [e, ho] at h1; cases h1
          · cases h
      · cases hl : lk L v with
        | some y => rw [ih hl u] at h2; cases h2
        | none =>
          rw [hl] at h
          simp only at h
          split at h
          · rename_i e; exact absurd e h1
          · cases h
mutual
theorem hom_fix {θ : Ty → Ty} (hθ : Hom θ) : ∀ u : Ty, wfT u = true → (∀ w, occ w u = true → 0 ≤ w → θ (.mk 1 w []) = .mk 1 w []) → θ u = u
  | .mk k id ss, h, hf => by
    by_cases hk : k = 1
    · obtain ⟨e, h0⟩ := wfT_var h (by simpa [Ty.kd] using hk)
      simp only [Ty.id] at e h0
      rw [e]
      exact hf id (by rw [e]; simp [occ]) h0
    · rw [hθ _ (by simpa [Ty.kd] using hk)]
      simp only [Ty.kd, Ty.id, Ty.args]
      have hk' : (k == 1) = false := by simpa using hk
      rw [hom_fixL hθ ss (wfT_mem h) fun w hw h0 => hf w (by simp only [occ, hk', Bool.false_and, Bool.false_or]; exact hw) h0]
theorem hom_fixL {θ : Ty → Ty} (hθ : Hom θ) : ∀ ts : List Ty, (∀ a ∈ ts, wfT a = true) → (∀ w, occL w ts = true → 0 ≤ w → θ (.mk 1 w []) = .mk 1 w []) → ts.map θ = ts
  | [], _, _ => rfl
  | t :: ts, h, hf => by
    rw [List.map_cons, hom_fix hθ t (h t (by simp)) fun w hw h0 => hf w (by simp [occL, hw]) h0, hom_fixL hθ ts (fun a ha => h a (by simp [ha])) fun w hw h0 => hf w (by simp [occL, hw]) h0]
end
theorem wf_v {v : Int} (h : 0 ≤ v) : wfT (.mk 1 v []) = true := by simp [wfT, nwf, wfTL, h]
theorem good_v {v : Int} (h : 0 ≤ v) : good (.mk 1 v []) := ⟨wf_v h, by simp [nds, ndsL]⟩
theorem canon_var {L L' : SB} (hw : WF L) (hw' : WF L') (h1 : Resp (sg L) L') (h2 : Resp (sg L') L) : ∀ v, 0 ≤ v → sg L' (.mk 1 v []) = sg L (.mk 1 v []) := by
  have key : ∀ w, 0 ≤ w → lk L w = none → sg L' (.mk 1 w []) = .mk 1 w [] := by
    intro w w0 hl
    have e1 : sg L (sg L' (.mk 1 w [])) = .mk 1 w [] := by rw [hom_sg (self_hom L) hw' h1 _ (wf_v w0), sg_free hw _ (good_v w0) rfl hl]
    have hwt := sg_wf hw' _ (wf_v w0)
    by_cases hk : (sg L' (.mk 1 w [])).kd = 1
    · obtain ⟨e, x0⟩ := wfT_var hwt hk
      have d1 := sg_down hw' w _ w0 e
      rw [e] at e1
      have d2 := sg_down hw _ _ x0 e1
      have : (sg L' (.mk 1 w [])).id = w := by omega
      rw [e, this]
    · rw [sg_app L _ hk] at e1
      simp only [Ty.mk.injEq] at e1
      exact absurd e1.1 hk
  intro v v0
  rw [← hom_sg (self_hom L') hw h2 (.mk 1 v []) (wf_v v0)]
  refine hom_fix (self_hom L') _ (sg_wf hw _ (wf_v v0)) fun w ho w0 => key w w0 ?_
  cases hl : lk L w with
  | none => rfl
  | some t => rw [occ_sg hw hl] at ho; cases ho
theorem canon {L L' : SB} (hw : WF L) (hw' : WF L') (h1 : Resp (sg L) L') (h2 : Resp (sg L') L) : ansB L = ansB L' := by
  have hd : ∀ {L L' : SB}, WF L → WF L' → Resp (sg L) L' → Resp (sg L') L → ∀ b, b ∈ ansB L → b ∈ ansB L' := by
    intro L L' hw hw' h1 h2 b hb
    obtain ⟨x, hx, rfl⟩ := ansB_mem.1 hb
    have hl := lk_of_mem (wf_nodup hw) hx
    obtain ⟨_, h0, hg⟩ := wf_dec hw _ _ hl
    have e := canon_var hw hw' h1 h2 x.1 h0
    have e1 : sg L (.mk 1 x.1 []) = sg L x.2 := (sg_bound hw (.mk 1 x.1 []) x.2 rfl hl).1
    cases hl' : lk L' x.1 with
    | none =>
      exfalso
      rw [sg_free hw' _ (good_v h0) rfl hl'] at e
      have := occ_sg hw hl (.mk 1 x.1 [])
      rw [← e] at this
      simp [occ] at this
    | some t =>
      refine ansB_mem.2 ⟨(x.1, t), lk_mem hl', ?_⟩
      rw [← e1, ← e, (sg_bound hw' (.mk 1 x.1 []) t rfl hl').1]
  have nd : ∀ {L : SB}, WF L → (ansB L).Nodup := fun hw => (ansB_sorted hw).imp fun h e => by rw [e] at h; exact absurd h (Int.lt_irrefl _)
  have hp : (ansB L).Perm (ansB L') := (List.perm_ext_iff_of_nodup (nd hw) (nd hw')).2 fun b => ⟨hd hw hw' h1 h2 b, hd hw' hw h2 h1 b⟩
  exact sorted_eq hp ((ansB_sorted hw).imp fun h => Int.le_of_lt h) (ansB_sorted hw')
/-! the example -/
abbrev tI : Ty := .mk 3 0 []
abbrev tV (v : Int) : Ty := .mk 1 v []
def es1 : List Eqn := [⟨.mk 9 0 [tV 1, tV 2], .mk 9 0 [tI, tV 1]⟩]
def es2 : List Eqn := [⟨tV 0, .mk 8 0 [tV 0]⟩]
def bs1 : List Bd := [⟨1, tI⟩, ⟨2, tI⟩]
def L1 : SB := [(1, tI), (2, tI)]
theorem good_I : good tI := ⟨rfl, by simp [nds, ndsL]⟩
theorem wf_L1 : WF L1 := by
  have h1 : WF [(1, tI)] := .snoc (L := []) .nil rfl good_I rfl (fun h => by cases h) (by decide)
  exact .snoc h1 rfl good_I rfl (fun h => by cases h) (by decide)
theorem es1_bad : es1.any badQ = false := by decide +kernel
theorem es1_ans {bs : List Bd} {ok : Bool} (h : UAns es1 bs ok) : bs = bs1 ∧ ok = true := by
  have hs : Sol (sg L1) es1 := fun e he => by
    simp only [es1, List.mem_singleton] at he
    subst he; rfl
  have hne : neQ es1 := fun e he => by
    simp only [es1, List.mem_singleton] at he
    subst he; exact ⟨rfl, rfl⟩
  obtain ⟨hok, L, hw, rfl, hr, hrun, _⟩ := complete h (by decide) es1_bad hne (self_hom L1) (ans_BV wf_L1 (by decide +kernel)) hs
  refine ⟨?_, hok⟩
  have s := run_spec es1 [] _ _ hrun .nil (bad_good es1_bad)
  have hsol := s.snd neS_nil hne rfl (sg L) (self_hom L) (self_resp hw) ⟨.mk 9 0 [tV 1, tV 2], .mk 9 0 [tI, tV 1]⟩ (by simp [es1])
  have nk : ¬ (9 : Int) = 1 := by decide
  have nk3 : ¬ (3 : Int) = 1 := by decide
  simp only at hsol
  rw [sg_app L (.mk 9 0 [tV 1, tV 2]) nk, sg_app L (.mk 9 0 [tI, tV 1]) nk] at hsol
  simp only [Ty.args, List.map_cons, List.map_nil, Ty.mk.injEq, List.cons.injEq, and_true, true_and] at hsol
  obtain ⟨_, _, q1, q2⟩ := hsol
  have e3 : sg L tI = tI := by rw [sg_app L tI nk3]; rfl
  have hr1 : Resp (sg L) L1 := fun v t hv => by
    simp only [L1, lk] at hv
    split at hv
    · rename_i e; cases hv; rw [e]; exact q1
    · split at hv
      · rename_i e; cases hv; rw [e]; exact q2.trans q1
      · cases hv
  have := canon hw wf_L1 hr1 hr
  rw [this]
  rfl
theorem es2_ans {bs : List Bd} {ok : Bool} (h : UAns es2 bs ok) : bs = [] ∧ ok = false := by
  cases h with
  | bad _ => exact ⟨rfl, rfl⟩
  | fail _ _ _ => exact ⟨rfl, rfl⟩
  | big _ _ _ _ _ => exact ⟨rfl, rfl⟩
  | @ok L h1 h2 hrun hw ha =>
    exfalso
    have s := run_spec es2 [] _ _ hrun .nil (bad_good h2)
    have hne : neQ es2 := fun e he => by
      simp only [es2, List.mem_singleton] at he
      subst he; exact ⟨rfl, rfl⟩
    have hsol := s.snd neS_nil hne rfl (sg L) (self_hom L) (self_resp hw) ⟨tV 0, .mk 8 0 [tV 0]⟩ (by simp [es2])
    simp only at hsol
    rw [sg_app L (.mk 8 0 [tV 0]) (by decide)] at hsol
    have := congrArg nds hsol
    simp only [nds, ndsL, Ty.args, List.map_cons, List.map_nil] at this
    omega
end Go.Proofs.Ytiediojibljpiaa
