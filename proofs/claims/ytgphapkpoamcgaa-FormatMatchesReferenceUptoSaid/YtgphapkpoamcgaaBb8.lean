/- Each operation does in the machine what it does to abstract values: cuts, tests, what is built, append. -/
import Derived.Test.YtgphapkpoamcgaaBb7
set_option linter.unusedVariables false
set_option linter.unusedSimpArgs false
namespace Go.Ab
open Go.RowKit

section
variable {P : Program} {nb : Nat} {f : FV} {h : HF} {K : Kont}

/-! ### tests -/
theorem run_bint {op : BinOp} {k : IntKind} {x y : Int} {v : Value} (hv : bint op k x y = some v) (t : TypeId) (w : World) : (binOp op t (.int k x) (.int k y)).run P w = .ok v w := by
  unfold bint at hv
  cases op <;> simp only [Option.some.injEq] at hv <;> try (cases hv; done)
  all_goals first
    | (subst hv; simp [binOp, Op.intArith, Op.intCmp]; done)
    | (split at hv
       · cases hv
       · rename_i hy
         simp only [Option.some.injEq] at hv; subst hv
         simp [binOp, Op.intDiv, hy])
theorem run_bstr {op : BinOp} {x y : ByteArray} {v : Value} (hv : bstr op x y = some v) (t : TypeId) (w : World) : (binOp op t (.string x) (.string y)).run P w = .ok v w := by
  unfold bstr at hv
  cases op <;> simp only [Option.some.injEq] at hv <;> try (cases hv; done)
  all_goals first
    | (subst hv; simp [binOp, Op.stringOp]; done)
    | (split at hv
       · rename_i hy
         simp only [Option.some.injEq] at hv; subst hv
         have : ¬ ((9223372036854775807 : Int) < (x.size : Int) + (y.size : Int)) := by omega
         simp [binOp, Op.stringOp, IntKind.max, IntKind.bits, IntKind.signed, this]
       · cases hv)
theorem run_beq {op : BinOp} {b : Bool} {v : Value} (hv : beq? op b = some v) {t : TypeId} {x y : Value} {w : World} (heq : (Op.equal t x y).run P w = .ok b w)
    (h1 : ∀ op, op = .eql → binOp op t x y = (do pure (.bool (← Op.equal t x y)))) (h2 : ∀ op, op = .neq → binOp op t x y = (do pure (.bool (!(← Op.equal t x y))))) : (binOp op t x y).run P w = .ok v w := by
  unfold beq? at hv
  split at hv <;> (try simp only [Option.some.injEq] at hv) <;> try (cases hv; done)
  · subst hv; rw [h1 _ rfl]; simp [heq]
  · subst hv; rw [h2 _ rfl]; simp [heq]
theorem run_eqGuard (op : BinOp) (t : TypeId) (x y : Operand) (a b : Value) (ha : a ≠ .nilIface) (hb : ∀ us, a ≠ .agg us) (w : World) : (eqGuard op t x y a b).run P w = .ok () w := by
  cases op <;> first
    | rfl
    | (cases a <;> first
        | (exact absurd rfl ha)
        | (exact absurd rfl (hb _))
        | rfl)
theorem eq_run {t : TypeId} {x y : Value} {b : Bool} {w : World} (h : ∀ d, (Op.equalIn (d + 1) t x y).run P w = .ok b w) : (Op.equal t x y).run P w = .ok b w := h 9999
theorem bdlit (S : Nat → Prop) (v : Value) : (V.pv (.lit v)).bd S := by simp [V.bd]

theorem snd_bin {op : BinOp} {t yt : TypeId} {x y : Operand} {o : AO} (hc : compOp P (.binOp op t x y yt) = some o) (hA : AS o nb f h K) : Snd P (.binOp op t x y yt) nb f h K := by
  simp only [compOp] at hc
  split at hc
  case h_2 => cases hc
  rename_i tag htag
  simp only [Option.some.injEq] at hc; subst hc
  simp only [AS] at hA
  have fin : ∀ (v : Value), K (.pv (.lit v)) [] [] → (∀ N S G f2 h2 a w, St N S G f2 h2 a w → ev f2 x = ev f x → ev f2 y = ev f y → (eqGuard op t x y (a.eval x) (a.eval y)).run P w = .ok () w ∧ (binOp op t (a.eval x) (a.eval y)).run P w = .ok v w) →
      Snd P (.binOp op t x y yt) nb f h K := fun v hK hrun => snd_pure _ hK fun N S G f2 h2 a w st hx oper ho => by
    obtain ⟨e1, e2⟩ := hrun N S G f2 h2 a w st (hx x (by simp [Op.operands])) (hx y (by simp [Op.operands]))
    exact ⟨v, by simp only [execOp, ho, Sem.run_bind, e1, e2, Result.andThen_ok, Sem.run_pure], by simp [R, RP], bdlit _ _⟩
  unfold binK at hA
  split at hA
  · rename_i k p k' q hx0 hy0
    obtain ⟨_, rfl, hA⟩ := hA
    unfold optK at hA
    split at hA
    case h_2 => exact hA.elim
    rename_i v hv
    refine fin v hA fun N S G f2 h2 a w st e1 e2 => ?_
    have h1 := st.ev x; rw [e1, hx0] at h1; simp only [R, RP] at h1
    have h2' := st.ev y; rw [e2, hy0] at h2'; simp only [R, RP] at h2'
    rw [h1, h2']
    exact ⟨run_eqGuard _ _ _ _ _ _ (by simp) (by simp) _, run_bint hv _ _⟩
  · rename_i p q hx0 hy0
    obtain ⟨_, hA⟩ := hA
    unfold optK at hA
    split at hA
    case h_2 => exact hA.elim
    rename_i v hv
    refine fin v hA fun N S G f2 h2 a w st e1 e2 => ?_
    have h1 := st.ev x; rw [e1, hx0] at h1; simp only [R, RP] at h1
    have h2' := st.ev y; rw [e2, hy0] at h2'; simp only [R, RP] at h2'
    rw [h1, h2']
    exact ⟨run_eqGuard _ _ _ _ _ _ (by simp) (by simp) _, run_bstr hv _ _⟩
  · rename_i p q hx0 hy0
    obtain ⟨ht, hA⟩ := hA
    unfold optK at hA
    split at hA
    case h_2 => exact hA.elim
    rename_i v hv
    refine fin v hA fun N S G f2 h2 a w st e1 e2 => ?_
    have h1 := st.ev x; rw [e1, hx0] at h1; simp only [R, RP] at h1
    have h2' := st.ev y; rw [e2, hy0] at h2'; simp only [R, RP] at h2'
    rw [h1, h2']
    have hu : P.underlying t = some .bool := by
      unfold tagOf at htag
      split at htag <;> (try simp only [Option.some.injEq] at htag) <;> (try (rw [← htag] at ht; simp at ht; done)) <;> first | assumption | cases htag
    exact ⟨run_eqGuard _ _ _ _ _ _ (by simp) (by simp) _, run_beq hv (eq_run fun d => by simp [Op.equalIn, run_underlying hu]) (by rintro op rfl; rfl) (by rintro op rfl; rfl)⟩
  · split at hA
    case h_2 => exact hA.elim
    rename_i b hb
    unfold optK at hA
    split at hA
    case h_2 => exact hA.elim
    rename_i v hv
    refine fin v hA fun N S G f2 h2 a w st e1 e2 => ?_
    have h1 := st.ev x; rw [e1] at h1
    have h2' := st.ev y; rw [e2] at h2'
    generalize ev f x = vx at *
    generalize ev f y = vy at *
    have ustag : ∀ tg, tagOf P t = some tg → (tg = .slice → ∃ e, P.underlying t = some (.slice e)) ∧ (tg = .ptr → ∃ e, P.underlying t = some (.pointer e)) ∧ (tg = .func → ∃ e e' e'', P.underlying t = some (.func e e' e'')) := fun tg ht => by
      unfold tagOf at ht
      split at ht <;> (try simp only [Option.some.injEq] at ht) <;> (try (cases ht; done)) <;> subst ht <;> refine ⟨fun h => ?_, fun h => ?_, fun h => ?_⟩ <;> first | (cases h; done) | exact ⟨_, by assumption⟩ | exact ⟨_, _, _, by assumption⟩
    obtain ⟨us1, us2, us3⟩ := ustag _ htag
    unfold nilEq at hb
    split at hb <;> first | (cases hb; done) | (simp only [Option.some.injEq] at hb; subst hb)
    · obtain ⟨e, hu⟩ := us1 rfl
      simp only [R, RP] at h1 h2'; rw [h1, h2']
      exact ⟨run_eqGuard _ _ _ _ _ _ (by simp) (by simp) _, run_beq hv (eq_run fun d => by simp [Op.equalIn, run_underlying hu]) (by rintro op rfl; rfl) (by rintro op rfl; rfl)⟩
    · obtain ⟨e, hu⟩ := us1 rfl
      simp only [R, RP] at h1 h2'; obtain ⟨A, n, c, h1, hn, _, _, h3⟩ := h1
      rcases h3 with h3 | ⟨ad, rfl, _⟩
      · simp [h3] at hn
      · rw [h1, h2']
        exact ⟨run_eqGuard _ _ _ _ _ _ (by simp) (by simp) _, run_beq hv (eq_run fun d => by simp [Op.equalIn, run_underlying hu]) (by rintro op rfl; rfl) (by rintro op rfl; rfl)⟩
    · obtain ⟨e, hu⟩ := us1 rfl
      simp only [R, RP] at h1 h2'; obtain ⟨c, h1, _⟩ := h1; rw [h1, h2']
      exact ⟨run_eqGuard _ _ _ _ _ _ (by simp) (by simp) _, run_beq hv (eq_run fun d => by simp [Op.equalIn, run_underlying hu]) (by rintro op rfl; rfl) (by rintro op rfl; rfl)⟩
    · obtain ⟨e, hu⟩ := us2 rfl
      simp only [R, RP] at h1 h2'; rw [h1, h2']
      exact ⟨run_eqGuard _ _ _ _ _ _ (by simp) (by simp) _, run_beq hv (eq_run fun d => by simp [Op.equalIn, run_underlying hu]) (by rintro op rfl; rfl) (by rintro op rfl; rfl)⟩
    · obtain ⟨e, hu⟩ := us2 rfl
      simp only [R, RP] at h1 h2'; obtain ⟨ad, h1, _⟩ := h1; rw [h1, h2']
      exact ⟨run_eqGuard _ _ _ _ _ _ (by simp) (by simp) _, run_beq hv (eq_run fun d => by simp [Op.equalIn, run_underlying hu]) (by rintro op rfl; rfl) (by rintro op rfl; rfl)⟩
    · obtain ⟨e, hu⟩ := us2 rfl
      simp only [R, RP] at h1 h2'; rw [h1, h2']
      exact ⟨run_eqGuard _ _ _ _ _ _ (by simp) (by simp) _, run_beq hv (eq_run fun d => by simp [Op.equalIn, run_underlying hu]) (by rintro op rfl; rfl) (by rintro op rfl; rfl)⟩
    · obtain ⟨e, e', e'', hu⟩ := us3 rfl
      simp only [R, RP] at h1 h2'; rw [h1, h2']
      exact ⟨run_eqGuard _ _ _ _ _ _ (by simp) (by simp) _, run_beq hv (eq_run fun d => by simp [Op.equalIn, run_underlying hu]) (by rintro op rfl; rfl) (by rintro op rfl; rfl)⟩
    · obtain ⟨e, e', e'', hu⟩ := us3 rfl
      simp only [R, RP] at h1 h2'; obtain ⟨us, h1, _⟩ := h1; rw [h1, h2']
      exact ⟨run_eqGuard _ _ _ _ _ _ (by simp) (by simp) _, run_beq hv (eq_run fun d => by simp [Op.equalIn, run_underlying hu]) (by rintro op rfl; rfl) (by rintro op rfl; rfl)⟩
    · obtain ⟨e, e', e'', hu⟩ := us3 rfl
      simp only [R, RP] at h1 h2'; obtain ⟨us, h1, _⟩ := h1; rw [h1, h2']
      exact ⟨run_eqGuard _ _ _ _ _ _ (by simp) (by simp) _, run_beq hv (eq_run fun d => by simp [Op.equalIn, run_underlying hu]) (by rintro op rfl; rfl) (by rintro op rfl; rfl)⟩
end
end Go.Ab
