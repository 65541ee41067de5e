/- The plain law of folding an operation on two literals. -/
import Derived.Test.YtgphapkpoamcgaaN4
set_option maxRecDepth 10000
set_option linter.unusedSimpArgs false
set_option linter.unusedVariables false
namespace Go.Proofs.Ytgphapkpoamcgaa
open Go Go.Ab
def operN (n : Int) : Nd := if decide (n < 0) then .mk 40 0 ⟨#[45]⟩ 0 0 (-1) [litN (IntKind.i64.wrap (0 - n))] else litN n
/-- what the law asks of the folded tree -/
def arOk (t : Int × Bool × Bool) (r : Int) : Bool :=
  if (t.2.2 == (if decide (r > -2147483648) then decide (r ≤ 2147483647) else false)) then (if !t.2.2 then true else if !t.2.1 then t.1 == r else false) else false
theorem bl_mm : (ByteArray.toList ⟨#[45]⟩ == ByteArray.toList ⟨#[45]⟩) = true := by kernel_rfl
theorem bl_mn : (ByteArray.toList ⟨#[45]⟩ == ByteArray.toList ⟨#[33]⟩) = false := by kernel_rfl
theorem val_lit {n : Int} (h0 : 0 ≤ n) (h1 : n ≤ 2147483647) : valN (litN n) = (n, false, true) := by
  simp [valN, litN, Nd.k, Nd.v, h0, h1]
theorem val_neg {m st en st' en' : Int} (h0 : 0 < m) (h1 : m ≤ 2147483647) : valN (.mk 40 0 ⟨#[45]⟩ st en (-1) [.mk 27 m ⟨#[]⟩ st' en' (-1) []]) = (-m, false, true) := by
  have hw : IntKind.i64.wrap (-m) = -m := by rw [IntWalk.i64_in _ (by omega)]
  simp [valN, Nd.k, Nd.v, Nd.tx, Nd.cs, bl_mm, encN, hdN, h0, h1, hw]
theorem val_oper {a : Int} (h0 : -2147483648 < a) (h1 : a ≤ 2147483647) : valN (operN a) = (a, false, true) := by
  unfold operN
  by_cases h : a < 0
  · have hw : IntKind.i64.wrap (0 - a) = -a := by rw [IntWalk.i64_in _ (by omega)]; omega
    simp only [h, decide_true, if_true, hw, litN]
    rw [val_neg (by omega) (by omega)]; simp
  · simp only [h, decide_false, Bool.false_eq_true, if_false]
    exact val_lit (by omega) h1
theorem fold_lit (n : Int) : foldN (litN n) = litN n := by
  simp [litN, foldN, foldNL, foldT, Nd.k]
theorem fold_oper {a : Int} (h0 : -2147483648 < a) (h1 : a ≤ 2147483647) : foldN (operN a) = operN a := by
  unfold operN
  by_cases h : a < 0
  · have hw : IntKind.i64.wrap (0 - a) = -a := by rw [IntWalk.i64_in _ (by omega)]; omega
    simp only [h, decide_true, if_true, hw]
    have hv := val_lit (n := -a) (by omega) (by omega)
    simp only [foldN, foldNL, fold_lit]
    have h2 : ¬ (-a ≤ 0) := by omega
    simp [foldT, Nd.k, Nd.cs, foldU, hdN, hv, Nd.tx, bl_mn, bl_mm, h2]
  · simp only [h, decide_false, Bool.false_eq_true, if_false]
    exact fold_lit a
theorem val_int (n : Nd) {r : Int} (h0 : -2147483648 < r) (h1 : r ≤ 2147483647) : valN (intN n r) = (r, false, true) := by
  unfold intN
  have hw : r < 0 → IntKind.i64.wrap (0 - r) = -r := fun h => by rw [IntWalk.i64_in _ (by omega)]; omega
  by_cases h : r < 0
  · have hm : magN r = -r := by unfold magN; rw [hw h, if_pos (by omega)]
    simp only [h, decide_true, if_true, hm]
    rw [val_neg (by omega) (by omega)]; simp
  · have hm : magN r = r := by
      unfold magN
      rw [show IntKind.i64.wrap (0 - r) = -r by rw [IntWalk.i64_in _ (by omega)]; omega]
      split <;> omega
    simp only [h, decide_false, Bool.false_eq_true, if_false, hm]
    simp [valN, Nd.k, Nd.v, h1]; omega
theorem fold_bin {a b r : Int} {op : ByteArray} (ha0 : -2147483648 < a) (ha1 : a ≤ 2147483647) (hb0 : -2147483648 < b) (hb1 : b ≤ 2147483647)
    (he : (op.toList == ByteArray.toList ⟨#[61, 61]⟩) = false) (hl : (op.toList == ByteArray.toList ⟨#[60]⟩) = false) (hop : arithN op a b = finN r) :
    arOk (valN (foldN (binN op (operN a) (operN b)))) r = true := by
  have e : foldN (binN op (operN a) (operN b)) = if (finN r).2 then intN (binN op (operN a) (operN b)) r else binN op (operN a) (operN b) := by
    simp only [binN, foldN, foldNL, fold_oper ha0 ha1, fold_oper hb0 hb1]
    simp only [foldT, Nd.k, Nd.cs, hdN, List.tail_cons, List.length_cons, List.length_nil]
    simp only [foldB, val_oper ha0 ha1, val_oper hb0 hb1, Nd.tx, he, hl, hop]
    simp [finN]
  rw [e]
  by_cases h : -2147483648 < r ∧ r ≤ 2147483647
  · have hf : (finN r).2 = true := by simp [finN, h.1, h.2]
    rw [if_pos hf, val_int _ h.1 h.2]
    simp [arOk, h.1, h.2]
  · have hf : (finN r).2 = false := by
      simp only [finN]
      by_cases h1 : -2147483648 < r
      · have : ¬ r ≤ 2147483647 := fun h2 => h ⟨h1, h2⟩
        simp [h1, this]
      · simp [h1]
    rw [if_neg (by simp [hf])]
    have hv : valN (binN op (operN a) (operN b)) = (0, false, false) := by simp [valN, binN, Nd.k]
    rw [hv]
    simp only [finN] at hf
    simp only [arOk, gt_iff_lt]
    simp only [gt_iff_lt] at hf
    rw [hf]; rfl
theorem six_law {a b : Int} (h : (decide (a ≤ -2147483648) || decide (a > 2147483647) || decide (b ≤ -2147483648) || decide (b > 2147483647)) = false) :
    arOk (valN (foldN (binN ⟨#[43]⟩ (operN a) (operN b)))) (IntKind.i64.wrap (a + b)) = true ∧ arOk (valN (foldN (binN ⟨#[45]⟩ (operN a) (operN b)))) (IntKind.i64.wrap (a - b)) = true ∧
      arOk (valN (foldN (binN ⟨#[42]⟩ (operN a) (operN b)))) (IntKind.i64.wrap (a * b)) = true := by
  simp only [Bool.or_eq_false_iff, decide_eq_false_iff_not] at h
  obtain ⟨⟨⟨h1, h2⟩, h3⟩, h4⟩ := h
  have e1 : (ByteArray.toList ⟨#[43]⟩ == ByteArray.toList ⟨#[43]⟩) = true := by kernel_rfl
  have e2 : (ByteArray.toList ⟨#[45]⟩ == ByteArray.toList ⟨#[43]⟩) = false := by kernel_rfl
  have e3 : (ByteArray.toList ⟨#[42]⟩ == ByteArray.toList ⟨#[43]⟩) = false := by kernel_rfl
  have e4 : (ByteArray.toList ⟨#[42]⟩ == ByteArray.toList ⟨#[45]⟩) = false := by kernel_rfl
  have e5 : (ByteArray.toList ⟨#[42]⟩ == ByteArray.toList ⟨#[42]⟩) = true := by kernel_rfl
  refine ⟨fold_bin (by omega) (by omega) (by omega) (by omega) (by kernel_rfl) (by kernel_rfl) ?_, fold_bin (by omega) (by omega) (by omega) (by omega) (by kernel_rfl) (by kernel_rfl) ?_, fold_bin (by omega) (by omega) (by omega) (by omega) (by kernel_rfl) (by kernel_rfl) ?_⟩
  · simp only [arithN, e1, if_true]
  · simp only [arithN, e2, bl_mm, if_true, Bool.false_eq_true, if_false]
  · simp only [arithN, e3, e4, e5, if_true, Bool.false_eq_true, if_false]
end Go.Proofs.Ytgphapkpoamcgaa
