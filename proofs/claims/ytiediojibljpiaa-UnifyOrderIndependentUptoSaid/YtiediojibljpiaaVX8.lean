/- X8: joined from ZX8. -/
import Derived.Test.YtiediojibljpiaaVFnU
import Derived.Test.YtiediojibljpiaaVW2
/- UnifyOrderIndependent without the program. -/
set_option maxRecDepth 10000
set_option linter.unusedSimpArgs false
set_option linter.unusedVariables false
namespace Go.Proofs.Ytiediojibljpiaa
open Go Go.Ab
theorem law30a {es es' : List Eqn} {bs us : List Bd} {ok' : Bool} (hl : es'.length = es.length) (hb : es'.any badQ = es.any badQ) (hne : neQ es) (hne' : neQ es') (hS : ∀ θ, Sol θ es → Sol θ es') (hS' : ∀ θ, Sol θ es' → Sol θ es)
    (h : UAns es bs true) (h' : UAns es' us ok') : ok' = true ∧ bs = us := by
  cases h with
  | @ok L h1 h2 hrun hw ha =>
    have hg := bad_good h2
    have s := run_spec _ [] _ _ hrun .nil hg
    have hsol : Sol (sg L) es := s.snd neS_nil hne rfl (sg L) (self_hom L) (self_resp hw)
    obtain ⟨hok, L', hw', rfl, hr, hrun', _⟩ := complete h' (by omega) (by rw [hb]; exact h2) hne' (self_hom L) (ans_BV hw ha) (hS _ hsol)
    have s' := run_spec _ [] _ _ hrun' .nil (bad_good (by rw [hb]; exact h2))
    have hsol' : Sol (sg L') es' := s'.snd neS_nil hne' rfl (sg L') (self_hom L') (self_resp hw')
    have hr' : Resp (sg L') L := (s.cpl neS_nil hne (sg L') (self_hom L') (fun v t h => by cases h) (hS' _ hsol')).1
    exact ⟨hok, canon hw hw' hr hr'⟩
def RQ (e : Eqn) : Eqn := ⟨e.r, e.l⟩
theorem bad_RQ (e : Eqn) : badQ (RQ e) = badQ e := by
  unfold badQ RQ
  by_cases h1 : valT e.l = 0 <;> by_cases h2 : valT e.r = 0 <;> simp [h1, h2]
theorem law30 {es : List Eqn} {bs us : List Bd} {ok ok' : Bool} (hne : neQ es) (h : UAns es bs ok) (h' : UAns (es.reverse.map RQ) us ok') : ok = ok' ∧ bs = us := by
  have hl : (es.reverse.map RQ).length = es.length := by simp
  have hb : (es.reverse.map RQ).any badQ = es.any badQ := by
    rw [List.any_map]
    have : (badQ ∘ RQ) = badQ := funext bad_RQ
    rw [this, List.any_reverse]
  have hne' : neQ (es.reverse.map RQ) := fun e he => by
    obtain ⟨x, hx, rfl⟩ := List.mem_map.1 he
    have := hne x (by simpa using hx)
    exact ⟨this.2, this.1⟩
  have hS : ∀ θ, Sol θ es → Sol θ (es.reverse.map RQ) := fun θ hs e he => by
    obtain ⟨x, hx, rfl⟩ := List.mem_map.1 he
    exact (hs x (by simpa using hx)).symm
  have hS' : ∀ θ, Sol θ (es.reverse.map RQ) → Sol θ es := fun θ hs e he => (hs (RQ e) (List.mem_map.2 ⟨e, by simpa using he, rfl⟩)).symm
  cases ok with
  | true =>
    obtain ⟨h1, h2⟩ := law30a hl hb hne hne' hS hS' h h'
    exact ⟨h1.symm, h2⟩
  | false =>
    cases ok' with
    | true =>
      obtain ⟨h1, _⟩ := law30a hl.symm hb.symm hne' hne hS' hS h' h
      cases h1
    | false => exact ⟨rfl, (ans_false h).trans (ans_false h').symm⟩
end Go.Proofs.Ytiediojibljpiaa
