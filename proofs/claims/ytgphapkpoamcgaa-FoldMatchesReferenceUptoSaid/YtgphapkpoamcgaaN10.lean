/- Folding a folded tree changes nothing: the plain law. -/
import Derived.Test.YtgphapkpoamcgaaN7
set_option maxRecDepth 10000
set_option linter.unusedSimpArgs false
set_option linter.unusedVariables false
namespace Go.Proofs.Ytgphapkpoamcgaa
open Go Go.Ab
theorem wneg {r : Int} (h0 : -2147483648 ≤ r) (h1 : r ≤ 2147483648) : IntKind.i64.wrap (0 - r) = -r := by rw [IntWalk.i64_in _ (by omega)]; omega
theorem mag_eq {r : Int} (h0 : -2147483648 < r) (h1 : r ≤ 2147483647) : magN r = if r < 0 then -r else r := by
  unfold magN; rw [wneg (by omega) (by omega)]; split <;> split <;> omega
theorem fold_leaf27 (v st en ns : Int) (tx : ByteArray) : foldN (.mk 27 v tx st en ns []) = .mk 27 v tx st en ns [] := by
  simp [foldN, foldNL, foldT, Nd.k]
theorem fold_int (n : Nd) {r : Int} (h0 : -2147483648 < r) (h1 : r ≤ 2147483647) : foldN (intN n r) = intN n r := by
  unfold intN
  rw [mag_eq h0 h1]
  by_cases h : r < 0
  · simp only [h, decide_true, if_true]
    simp only [foldN, foldNL, fold_leaf27]
    have hv : valN (.mk 27 (-r) ⟨#[]⟩ n.st n.en (-1) []) = (-r, false, true) := by
      have h2 : (0 : Int) ≤ -r := by omega
      have h3 : -r ≤ 2147483647 := by omega
      simp [valN, Nd.k, Nd.v, h2, h3]; omega
    have h4 : ¬ (-r ≤ 0) := by omega
    simp [foldT, Nd.k, Nd.cs, hdN, foldU, hv, Nd.tx, bl_mn, bl_mm, h4]
  · simp only [h, decide_false, Bool.false_eq_true, if_false]
    exact fold_leaf27 _ _ _ _ _
theorem fold_bool (n : Nd) (b : Bool) : foldN (boolN n b) = boolN n b := by
  unfold boolN
  cases b <;> simp [foldN, foldNL, foldT, Nd.k]
theorem val_range {n : Nd} (h1 : (valN n).2.2 = true) (h2 : (valN n).2.1 = false) : -2147483648 < (valN n).1 ∧ (valN n).1 ≤ 2147483647 := by
  unfold valN at h1 h2 ⊢
  repeat' split at h1
  all_goals simp_all
  · omega
  · rw [show -(hdN n.cs).v = 0 - (hdN n.cs).v by omega, wneg (by omega) (by omega)]; omega
theorem fin_range {r : Int} (h : (finN r).2 = true) : -2147483648 < (finN r).1 ∧ (finN r).1 ≤ 2147483647 := by
  simp only [finN] at h ⊢
  split at h
  · rename_i h1; simp at h h1; omega
  · cases h
theorem arith_range {op : ByteArray} {a b : Int} (h : (arithN op a b).2 = true) : -2147483648 < (arithN op a b).1 ∧ (arithN op a b).1 ≤ 2147483647 := by
  unfold arithN at h ⊢
  repeat' split
  all_goals (try simp_all)
  all_goals exact fin_range h
theorem foldB_cases (m a b : Nd) : foldB m a b = m ∨ foldB m a b = b ∨ (∃ x, foldB m a b = boolN m x) ∨ ∃ r, -2147483648 < r ∧ r ≤ 2147483647 ∧ foldB m a b = intN m r := by
  generalize hr : foldB m a b = r
  unfold foldB at hr
  repeat' split at hr
  all_goals first
    | exact .inl hr.symm
    | exact .inr (.inl hr.symm)
    | exact .inr (.inr (.inl ⟨_, hr.symm⟩))
    | (rename_i h; exact .inr (.inr (.inr ⟨_, (arith_range h).1, (arith_range h).2, hr.symm⟩)))
theorem foldU_cases (m a : Nd) : foldU m a = m ∨ (∃ x, foldU m a = boolN m x) ∨ ∃ r, -2147483648 < r ∧ r ≤ 2147483647 ∧ foldU m a = intN m r := by
  generalize hr : foldU m a = r
  unfold foldU at hr
  repeat' split at hr
  all_goals first
    | exact .inl hr.symm
    | exact .inr (.inl ⟨_, hr.symm⟩)
    | (have h1 : (valN a).2.2 = true := by simp_all
       have hb : (valN a).2.1 = false := by simp_all
       have hle : (valN a).1 ≤ 0 := by simp_all
       have := val_range h1 hb
       refine .inr (.inr ⟨_, ?_, ?_, hr.symm⟩) <;> rw [wneg (by omega) (by omega)] <;> omega)
theorem foldT_cases (m : Nd) : foldT m = m ∨ foldT m ∈ m.cs ∨ (∃ x, foldT m = boolN m x) ∨ ∃ r, -2147483648 < r ∧ r ≤ 2147483647 ∧ foldT m = intN m r := by
  unfold foldT
  by_cases h1 : (if m.k == 39 then ((m.cs.length : Int) == 2) else false) = true
  · rw [if_pos h1]
    have hl : ((m.cs.length : Int) == 2) = true := by
      split at h1
      · exact h1
      · cases h1
    have e := len2 hl
    rcases foldB_cases m (hdN m.cs) (hdN m.cs.tail) with e1 | e1 | e1 | e1
    · exact .inl e1
    · right; left; rw [e1, e]; simp [hdN]
    · exact .inr (.inr (.inl e1))
    · exact .inr (.inr (.inr e1))
  · rw [if_neg h1]
    by_cases h2 : (if m.k == 40 then ((m.cs.length : Int) == 1) else false) = true
    · rw [if_pos h2]
      rcases foldU_cases m (hdN m.cs) with e1 | e1 | e1
      · exact .inl e1
      · exact .inr (.inr (.inl e1))
      · exact .inr (.inr (.inr e1))
    · rw [if_neg h2]; exact .inl rfl
theorem foldT_fix (k v : Int) (tx : ByteArray) (st en ns : Int) (cs : List Nd) (h : ∀ c ∈ cs, foldN c = c) : foldN (foldT (.mk k v tx st en ns cs)) = foldT (.mk k v tx st en ns cs) := by
  have hN : foldN (.mk k v tx st en ns cs) = foldT (.mk k v tx st en ns cs) := by
    simp only [foldN]
    rw [foldNL_map, List.map_congr_left h, List.map_id']
  rcases foldT_cases (.mk k v tx st en ns cs) with e | e | ⟨x, e⟩ | ⟨r, h0, h1, e⟩
  · rw [e, hN, e]
  · exact h _ e
  · rw [e]; exact fold_bool _ _
  · rw [e]; exact fold_int _ h0 h1
theorem fold_idem : ∀ n : Nd, foldN (foldN n) = foldN n
  | .mk k v tx st en ns cs => by
    have hrec : ∀ t ∈ cs, foldN (foldN t) = foldN t := fun t ht => fold_idem t
    simp only [foldN]
    refine foldT_fix _ _ _ _ _ _ _ fun c hc => ?_
    rw [foldNL_map] at hc
    obtain ⟨t, ht, rfl⟩ := List.mem_map.1 hc
    exact hrec t ht
termination_by n => SizeOf.sizeOf n
decreasing_by
  have := List.sizeOf_lt_of_mem ht
  simp only [Nd.mk.sizeOf_spec]; omega
end Go.Proofs.Ytgphapkpoamcgaa
