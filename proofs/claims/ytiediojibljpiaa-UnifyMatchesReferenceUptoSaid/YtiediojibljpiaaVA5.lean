/- A5: joined from X8. -/
import Derived.Test.YtiediojibljpiaaVFnU
import Derived.Test.YtiediojibljpiaaVA4
import Derived.Test.YtiediojibljpiaaVA2
/- TypeOperations: the plain law and the walk. -/
set_option maxRecDepth 10000
set_option linter.unusedSimpArgs false
set_option linter.unusedVariables false
namespace Go.Proofs.Ytiediojibljpiaa
open Go Go.Ab
def ins (xs : List Int) (v : Int) : List Int := if (xs.any fun x => x == v) then xs else xs ++ [v]
theorem addAll_app : ∀ (us vs xs : List Int), addAll xs (us ++ vs) = addAll (addAll xs us) vs
  | [], vs, xs => rfl
  | u :: us, vs, xs => by simp only [List.cons_append, addAll, addAll_app us vs]
theorem mem_addAll (x : Int) : ∀ (vs xs : List Int), x ∈ addAll xs vs ↔ x ∈ xs ∨ x ∈ vs
  | [], xs => by simp [addAll]
  | v :: vs, xs => by
    simp only [addAll, mem_addAll x vs]
    by_cases h : (xs.any fun y => y == v) = true
    · rw [if_pos h]
      have h : v ∈ xs := by simpa using h
      constructor
      · rintro (h1 | h1) <;> simp [h1]
      · rintro (h1 | h1)
        · exact .inl h1
        · rcases List.mem_cons.1 h1 with rfl | h1
          · exact .inl h
          · exact .inr h1
    · rw [if_neg h]
      simp only [List.mem_append, List.mem_cons, List.not_mem_nil, or_false, or_assoc]
theorem any_mem {xs : List Int} {v : Int} (h : v ∈ xs) : (xs.any fun x => x == v) = true := by simpa using h
theorem addAll_addAll : ∀ (l ys xs : List Int), addAll xs (addAll ys l) = addAll (addAll xs ys) l
  | [], ys, xs => rfl
  | v :: l, ys, xs => by
    simp only [addAll]
    rw [addAll_addAll l]
    by_cases h : (ys.any fun y => y == v) = true
    · rw [if_pos h]
      have h : v ∈ ys := by simpa using h
      rw [if_pos (any_mem ((mem_addAll v ys xs).2 (.inr h)))]
    · rw [if_neg h, addAll_app]
      simp only [addAll]
def flat : List Ty → List Int
  | [] => []
  | t :: ts => vo t ++ flat ts
theorem voL_flat : ∀ (ts : List Ty) (ys : List Int), voL ts ys = addAll ys (flat ts)
  | [], ys => rfl
  | t :: ts, ys => by simp only [voL, flat, addAll_app, voL_flat ts]
theorem any_sym (xs : List Int) (v : Int) : (xs.any fun x => v == x) = (xs.any fun x => x == v) := by
  congr 1; funext x; exact Bool.beq_comm
mutual
theorem afv_vo : ∀ (t : Ty) (xs : List Int), wfT t = true → afv t xs = addAll xs (vo t)
  | .mk k id ss, xs, h => by
    simp only [wfT] at h
    split at h
    · rename_i hn
      by_cases hk : k = 1
      · subst hk
        have hl : ss = [] := by
          simp [nwf] at hn
          exact hn.2
        subst hl
        have e : addAll xs (vo (.mk 1 id [])) = if (xs.any fun x => x == id) then xs else xs ++ [id] := rfl
        rw [e]
        simp only [afv, afvL, any_sym]
        simp only [beq_self_eq_true, if_true]
        cases (xs.any fun x => x == id) <;> rfl
      · have hk' : (k == 1) = false := by simpa using hk
        simp only [afv, vo, hk', Bool.false_eq_true, if_false]
        rw [voL_flat, addAll_addAll, addAll]
        exact afvL_vo ss xs h
    · cases h
theorem afvL_vo : ∀ (ts : List Ty) (xs : List Int), wfTL ts = true → afvL ts xs = addAll xs (flat ts)
  | [], xs, _ => rfl
  | t :: ts, xs, h => by
    simp only [wfTL] at h
    split at h
    · rename_i hn
      simp only [afvL, flat, addAll_app]
      rw [afv_vo t xs hn, afvL_vo ts _ h]
    · cases h
end
theorem vo_dup : ∀ t : Ty, addAll [] (vo t) = vo t
  | .mk k id ss => by
    simp only [vo]
    split
    · rfl
    · rw [voL_flat, addAll_addAll, addAll]
theorem fvs_vo {t : Ty} (h : wfT t = true) : fvs t = vo t := by rw [fvs, afv_vo t [] h, vo_dup]
end Go.Proofs.Ytiediojibljpiaa
