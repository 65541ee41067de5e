/- A7: joined from L7. -/
import Derived.Test.YtljpmkaecfollaaDoorFnL
import Derived.Test.YtljpmkaecfollaaDoorA6
/- The program's first token is the reference's. -/
set_option maxRecDepth 10000
set_option linter.unusedSimpArgs false
set_option linter.unusedVariables false
namespace Go.Proofs.YtljpmkaecfollaaDoor
open Go Go.Ab
theorem allB (p : UInt8 → Bool) (h : ∀ n : Fin 256, p (UInt8.ofNat n.val) = true) (c : UInt8) : p c = true := by
  have := h ⟨c.toNat, c.toNat_lt⟩
  simpa using this
theorem b_sp : spB = sp4 := funext fun c => by
  have := allB (fun c => spB c == sp4 c) (by decide +kernel) c
  simpa using this
theorem b_dg (c : UInt8) (h : dgB c = true) : ltB c = false := by
  have := allB (fun c => !(dgB c) || !(ltB c)) (by decide +kernel) c
  rw [h] at this; simpa using this
theorem b_nl (c : UInt8) (h : ((c.toNat : Int) == 34) = true) : nlB c = true := by
  have := allB (fun c => !((c.toNat : Int) == 34) || nlB c) (by decide +kernel) c
  simpa only [h, Bool.not_true, Bool.false_or] using this
theorem b_p1 (c : UInt8) : decide (Go.Lib.indexByte P1 c ≥ 0) = P1.any fun d => [c] == [d] := by
  have := allB (fun c => decide (Go.Lib.indexByte P1 c ≥ 0) == P1.any fun d => [c] == [d]) (by decide +kernel) c
  simpa using this
theorem runL_cons (p : UInt8 → Bool) (c : UInt8) (r : List UInt8) : runL p (c :: r) = if p c then runL p r + 1 else 0 := rfl
theorem ge2 (l : List UInt8) (n : Nat) (h : n = 2) : decide ((l.length : Int) ≥ ((n : Nat) : Int)) = decide ((l.length : Int) > 1) := by
  subst h; simp only [decide_eq_decide]; omega
theorem puF_two : ∀ (ps rest : List (List UInt8)) (l : List UInt8), (∀ p ∈ ps, p.length = 2) → puF (ps ++ rest) l = if (decide ((l.length : Int) > 1) && hasS ps (l.take 2)) then (107, 2) else puF rest l
  | [], rest, l, _ => by simp [hasS]
  | p :: ps, rest, l, h => by
    have hp := h p (by simp)
    have ih := puF_two ps rest l fun q hq => h q (by simp [hq])
    have e : pfx l p = (decide ((l.length : Int) > 1) && (l.take 2 == p)) := by unfold pfx; rw [ge2 l _ hp, hp]
    rw [List.cons_append]
    cases hx : pfx l p with
    | true =>
      rw [puF_t hx, hp]
      rw [e, Bool.and_eq_true] at hx
      rw [if_pos (by rw [Bool.and_eq_true]; exact ⟨hx.1, by simp only [hasS, List.any_cons, hx.2, Bool.true_or]⟩)]
    | false =>
      rw [puF_f hx, ih]
      have : (decide ((l.length : Int) > 1) && hasS (p :: ps) (l.take 2)) = (decide ((l.length : Int) > 1) && hasS ps (l.take 2)) := by
        cases hd : decide ((l.length : Int) > 1) with
        | false => rfl
        | true =>
          rw [e, hd, Bool.true_and] at hx
          simp only [hasS, List.any_cons, hx, Bool.false_or]
      rw [this]
theorem puF_one (c : UInt8) (r : List UInt8) : ∀ (cs : List UInt8), puF (cs.map fun d => [d]) (c :: r) = if (cs.any fun d => [c] == [d]) then (107, 1) else (108, 1)
  | [] => rfl
  | d :: cs => by
    have ih := puF_one c r cs
    have e : pfx (c :: r) [d] = ([c] == [d]) := by
      unfold pfx
      rw [show decide (((c :: r).length : Int) ≥ (([d] : List UInt8).length : Int)) = true from decide_eq_true (by simp only [List.length_cons, List.length_nil]; omega), Bool.true_and]; rfl
    rw [List.map_cons]
    cases hx : ([c] == [d]) with
    | true => rw [puF_t (e.trans hx), if_pos (by simp only [List.any_cons, hx, Bool.true_or])]; rfl
    | false =>
      rw [puF_f (e.trans hx), ih]
      simp only [List.any_cons, hx, Bool.false_or]
theorem PU_eq : PU = P2 ++ P1.map fun d => [d] := by kernel_rfl
theorem P2_two : ∀ p ∈ P2, p.length = 2 := by decide +kernel
theorem pu_spec (c : UInt8) (r : List UInt8) : puF PU (c :: r) = if (decide (((c :: r).length : Int) > 1) && hasS P2 ((c :: r).take 2)) then (107, 2) else if decide (Go.Lib.indexByte P1 c ≥ 0) then (107, 1) else (108, 1) := by
  rw [PU_eq, puF_two _ _ _ P2_two, puF_one, b_p1]
theorem fst_tok (c : UInt8) (r : List UInt8) : fstP (c :: r) = (((tokR (c :: r)).2 : Int), (tokR (c :: r)).1) ∧ 1 ≤ (tokR (c :: r)).2 ∧ (tokR (c :: r)).2 ≤ (c :: r).length := by
  have hg : (c :: r).getD 0 0 = c := rfl
  have hd : (c :: r).drop 1 = r := rfl
  have pos : ∀ (p : UInt8 → Bool), p c = true → decide (((runL p (c :: r) : Nat) : Int) > 0) = true ∧ 1 ≤ runL p (c :: r) := fun p h => by
    rw [runL_cons, if_pos h]; exact ⟨decide_eq_true (by omega), by omega⟩
  have zer : ∀ (p : UInt8 → Bool), p c = false → decide (((runL p (c :: r) : Nat) : Int) > 0) = false := fun p h => by
    rw [runL_cons, if_neg (by simp [h])]; rfl
  have hp : (decide (((c :: r).length : Int) > 1) && ((c :: r).take 2 == [47, 47])) = pfx (c :: r) [47, 47] := by
    unfold pfx; rw [ge2 _ _ (rfl : ([47, 47] : List UInt8).length = 2)]; rfl
  unfold fstP tokR strP
  rw [b_sp, hg, hd, pu_spec, hp]
  cases h1 : sp4 c with
  | true =>
    simp only [(pos _ h1).1, if_true]
    exact ⟨trivial, (pos _ h1).2, runL_le _ _⟩
  | false =>
    cases h2 : pfx (c :: r) [47, 47] with
    | true =>
      simp only [zer _ h1, if_true, if_false, Bool.false_eq_true]
      have hc : nlB c = true := by
        rw [← hp, Bool.and_eq_true] at h2
        have := eq_of_beq h2.2
        cases r with
        | nil => simp at this
        | cons d r => simp at this; rw [this.1]; rfl
      exact ⟨trivial, (pos _ hc).2, runL_le _ _⟩
    | false =>
      cases h3 : ltB c with
      | true =>
        have h4 : dgB c = false := by
          cases h4 : dgB c with
          | false => rfl
          | true => rw [b_dg c h4] at h3; cases h3
        have h5 : ldB c = true := by unfold ldB; rw [h3]; rfl
        cases h6 : hasS KW ((c :: r).take (runL ldB (c :: r))) with
        | true =>
          simp only [zer _ h1, zer _ h4, (pos _ h5).1, if_true, if_false, Bool.false_eq_true]
          exact ⟨trivial, (pos _ h5).2, runL_le _ _⟩
        | false =>
          simp only [zer _ h1, zer _ h4, (pos _ h5).1, if_true, if_false, Bool.false_eq_true]
          exact ⟨trivial, (pos _ h5).2, runL_le _ _⟩
      | false =>
        cases h4 : dgB c with
        | true =>
          simp only [zer _ h1, (pos _ h4).1, if_true, if_false, Bool.false_eq_true]
          exact ⟨trivial, (pos _ h4).2, runL_le _ _⟩
        | false =>
          have h5 : ldB c = false := by unfold ldB; rw [h3, h4]; rfl
          cases h6 : ((c.toNat : Int) == 34) with
          | true =>
            cases h7 : decide (litG r 1 > 0) with
            | true =>
              have h8 : decide (((litG r 1 : Nat) : Int) > 0) = true := by have := of_decide_eq_true h7; exact decide_eq_true (by omega)
              simp only [zer _ h1, zer _ h4, zer _ h5, h8, if_true, if_false, Bool.false_eq_true]
              have := litG_le r 1
              have := of_decide_eq_true h7
              exact ⟨trivial, by omega, by simp only [List.length_cons]; omega⟩
            | false =>
              have h8 : decide (((litG r 1 : Nat) : Int) > 0) = false := by have := of_decide_eq_false h7; exact decide_eq_false (by omega)
              have h9 := b_nl c h6
              simp only [zer _ h1, zer _ h4, zer _ h5, h8, if_true, if_false, Bool.false_eq_true]
              refine ⟨?_, (pos _ h9).2, runL_le _ _⟩
              rw [runL_cons, if_pos h9, Nat.add_comm]
          | false =>
            cases h7 : (decide (((c :: r).length : Int) > 1) && hasS P2 ((c :: r).take 2)) with
            | true =>
              simp only [zer _ h1, zer _ h4, zer _ h5, if_true, if_false, Bool.false_eq_true]
              rw [Bool.and_eq_true] at h7
              have := of_decide_eq_true h7.1
              exact ⟨rfl, by omega, by omega⟩
            | false =>
              cases h8 : decide (Go.Lib.indexByte P1 c ≥ 0) with
              | true =>
                simp only [zer _ h1, zer _ h4, zer _ h5, if_true, if_false, Bool.false_eq_true]
                exact ⟨rfl, Nat.le_refl _, by simp⟩
              | false =>
                simp only [zer _ h1, zer _ h4, zer _ h5, if_true, if_false, Bool.false_eq_true]
                exact ⟨rfl, Nat.le_refl _, by simp⟩
end Go.Proofs.YtljpmkaecfollaaDoor
