/- P7: joined from ZP7. -/
import Derived.Test.YtiediojibljpiaaVFnU
import Derived.Test.YtiediojibljpiaaVP6
import Derived.Test.YtiediojibljpiaaVA3
/- The laws of unification, without a program in sight. -/
set_option maxRecDepth 10000
set_option linter.unusedSimpArgs false
set_option linter.unusedVariables false
namespace Go.Proofs.Ytiediojibljpiaa
open Go Go.Ab
theorem self_hom (L : SB) : Hom (sg L) := sg_app L
theorem self_resp {L : SB} (hw : WF L) : Resp (sg L) L := fun v t h => (sg_bound hw (.mk 1 v []) t rfl h).1
/-- a solution of small types -/
def BV (θ : Ty → Ty) : Prop := ∀ v, 0 ≤ v → limT (θ (.mk 1 v [])) = true
theorem lim_le {t : Ty} (h : limT t = true) : nds t ≤ 100 ∧ dp t ≤ 12 := by
  unfold limT at h
  by_cases h1 : nds t ≤ 100
  · rw [if_pos (by simpa using h1)] at h; exact ⟨h1, of_decide_eq_true h⟩
  · rw [if_neg (by simpa using h1)] at h; cases h
theorem lim_of {t : Ty} (h1 : nds t ≤ 100) (h2 : dp t ≤ 12) : limT t = true := by
  unfold limT; rw [if_pos (by simpa using h1)]; simpa using h2
mutual
theorem nds_hom {θ : Ty → Ty} (hθ : Hom θ) (hb : BV θ) : ∀ t : Ty, wfT t = true → nds (θ t) ≤ nds t * 100
  | .mk k id ss, h => by
    by_cases hk : k = 1
    · obtain ⟨e, h0⟩ := wfT_var h (by simpa [Ty.kd] using hk)
      simp only [Ty.id] at e h0
      rw [e]
      have := (lim_le (hb id h0)).1
      simp only [nds, ndsL]; omega
    · rw [hθ _ (by simpa [Ty.kd] using hk)]
      have := nds_homL hθ hb ss (wfT_mem h)
      simp only [nds, Ty.args]; omega
theorem nds_homL {θ : Ty → Ty} (hθ : Hom θ) (hb : BV θ) : ∀ ts : List Ty, (∀ a ∈ ts, wfT a = true) → ndsL (ts.map θ) ≤ ndsL ts * 100
  | [], _ => Nat.le_refl _
  | t :: ts, h => by
    have h1 := nds_hom hθ hb t (h t (by simp))
    have h2 := nds_homL hθ hb ts fun a ha => h a (by simp [ha])
    simp only [List.map_cons, ndsL]; omega
end
theorem dpL_mono : ∀ (ts : List Ty) (d e : Int), d ≤ e → dpL ts d ≤ dpL ts e
  | [], d, e, h => h
  | t :: ts, d, e, h => by
    simp only [dpL]
    refine dpL_mono ts _ _ ?_
    split <;> split <;> omega
mutual
theorem hom_ge {θ : Ty → Ty} (hθ : Hom θ) : ∀ t : Ty, wfT t = true → nds t ≤ nds (θ t) ∧ dp t ≤ dp (θ t)
  | .mk k id ss, h => by
    by_cases hk : k = 1
    · obtain ⟨e, h0⟩ := wfT_var h (by simpa [Ty.kd] using hk)
      simp only [Ty.id] at e h0
      rw [e]
      have h1 := nds_pos (θ (.mk 1 id []))
      have h2 := (dp_bd (θ (.mk 1 id []))).1
      simp only [nds, ndsL, dp, dpL]
      omega
    · rw [hθ _ (by simpa [Ty.kd] using hk)]
      obtain ⟨h1, h2⟩ := hom_geL hθ ss (wfT_mem h)
      have h2 := h2 0
      simp only [nds, Ty.args, dp]; omega
theorem hom_geL {θ : Ty → Ty} (hθ : Hom θ) : ∀ ts : List Ty, (∀ a ∈ ts, wfT a = true) → ndsL ts ≤ ndsL (ts.map θ) ∧ ∀ d, dpL ts d ≤ dpL (ts.map θ) d
  | [], _ => ⟨Nat.le_refl _, fun d => Int.le_refl _⟩
  | t :: ts, h => by
    obtain ⟨h1, h2⟩ := hom_ge hθ t (h t (by simp))
    obtain ⟨h3, h4⟩ := hom_geL hθ ts fun a ha => h a (by simp [ha])
    refine ⟨by simp only [List.map_cons, ndsL]; omega, fun d => ?_⟩
    simp only [List.map_cons, dpL]
    refine Int.le_trans (h4 _) (dpL_mono _ _ _ ?_)
    split <;> split <;> omega
end
theorem no_big {L : SB} (hw : WF L) {θ : Ty → Ty} (hθ : Hom θ) (hr : Resp θ L) (hb : BV θ) : allLim L (sg L) = true := by
  unfold allLim
  rw [List.all_eq_true]
  intro x hx
  have hl := lk_of_mem (wf_nodup hw) hx
  obtain ⟨_, h0, hg⟩ := wf_dec hw _ _ hl
  obtain ⟨h1, h2⟩ := lim_le (hb x.1 h0)
  obtain ⟨h3, h4⟩ := hom_ge hθ (sg L x.2) (sg_wf hw _ hg.1)
  rw [hom_sg hθ hw hr _ hg.1, ← hr _ _ hl] at h3 h4
  exact lim_of (by omega) (by omega)
theorem neS_nil : neS [] := fun v t h => by cases h
/-- a system with a solution of small types is solved -/
theorem complete {es : List Eqn} {bs : List Bd} {ok : Bool} (h : UAns es bs ok) (h1 : es.length ≤ 100) (h2 : es.any badQ = false) (hne : neQ es) {θ : Ty → Ty} (hθ : Hom θ) (hb : BV θ) (hs : Sol θ es) :
    ok = true ∧ ∃ L, WF L ∧ bs = ansB L ∧ Resp θ L ∧ runR [] es true L ∧ allLim L (sg L) = true := by
  have hg := bad_good h2
  have hn : ∀ e ∈ es, nds (θ e.l) < 20000 := fun e he => by
    obtain ⟨g1, _⟩ := hg e he
    have := nds_hom hθ hb e.l g1.1
    have := g1.2
    omega
  have hr0 : Resp θ [] := fun v t h => by cases h
  cases h with
  | bad h =>
    rcases h with h | h
    · omega
    · rw [h2] at h; cases h
  | fail _ _ hrun =>
    have s := run_spec es [] _ _ hrun .nil hg
    have := (s.cpl neS_nil hne θ hθ hr0 hs).2 hn
    cases this
  | big _ _ hrun hw ha =>
    have s := run_spec es [] _ _ hrun .nil hg
    have := (s.cpl neS_nil hne θ hθ hr0 hs).1
    rw [no_big hw hθ this hb] at ha
    cases ha
  | ok _ _ hrun hw ha =>
    have s := run_spec es [] _ _ hrun .nil hg
    exact ⟨rfl, _, hw, rfl, (s.cpl neS_nil hne θ hθ hr0 hs).1, hrun, ha⟩
theorem ans_BV {L : SB} (hw : WF L) (ha : allLim L (sg L) = true) : BV (sg L) := fun v h0 => by
  cases hl : lk L v with
  | some t =>
    rw [(sg_bound hw (.mk 1 v []) t rfl hl).1]
    unfold allLim at ha
    rw [List.all_eq_true] at ha
    exact ha _ (lk_mem hl)
  | none =>
    rw [sg_free hw (.mk 1 v []) ⟨by simp [wfT, nwf, wfTL, h0], by simp [nds, ndsL]⟩ rfl hl]
    exact lim_of (by simp [nds, ndsL]) (by simp [dp, dpL])
end Go.Proofs.Ytiediojibljpiaa
