/- The reference's way to fold one node is the program's: the plain law. -/
import Derived.Test.YtgphapkpoamcgaaN13
set_option maxRecDepth 10000
set_option linter.unusedSimpArgs false
set_option linter.unusedVariables false
namespace Go.Proofs.Ytgphapkpoamcgaa
open Go Go.Ab
theorem Vw_nmk {h : HF} {B : List Nat} {k v st en ns : Int} {tx : ByteArray} {cs : List Nd} {x : V} (hx : Vw h B x (.list 7 (encN cs))) : Vw h B (.agg [.pv (ii k), .pv (ii v), .pv (ss tx), .pv (ii st), .pv (ii en), .pv (ii ns), x]) (Nd.mk k v tx st en ns cs).enc := by
  simp only [Nd.enc]
  exact .agg _ _ (.cons _ _ _ _ (.pv _) (.cons _ _ _ _ (.pv _) (.cons _ _ _ _ (.pv _) (.cons _ _ _ _ (.pv _) (.cons _ _ _ _ (.pv _) (.cons _ _ _ _ (.pv _) (.cons _ _ _ _ hx .nil)))))))
def refU (m : Nd) (v x : Int) : Nd :=
  if (if m.tx.toList == ByteArray.toList ⟨#[33]⟩ then x == 2 else false) then litR m (IntKind.i64.wrap (1 - v)) 2
  else if (if (if m.tx.toList == ByteArray.toList ⟨#[45]⟩ then x == 1 else false) then decide (v < 1) else false) then litR m (IntKind.i64.wrap (0 - v)) 1
  else m
def refF (m : Nd) (r : Int) : Nd := if inR r (-2147483647) 2147483647 then litR m r 1 else m
def refB (m c : Nd) (a x b y : Int) : Nd :=
  if (if (if m.tx.toList == ByteArray.toList ⟨#[38, 38]⟩ then x == 2 else false) then a == 1 else false) then c
  else if (if (if m.tx.toList == ByteArray.toList ⟨#[124, 124]⟩ then x == 2 else false) then a == 0 else false) then c
  else if (if m.tx.toList == ByteArray.toList ⟨#[38, 38]⟩ then x == 2 else false) then litR m a 2
  else if (if m.tx.toList == ByteArray.toList ⟨#[124, 124]⟩ then x == 2 else false) then litR m a 2
  else if (if x == 0 then true else x != y) then m
  else if m.tx.toList == ByteArray.toList ⟨#[61, 61]⟩ then litR m (bit (a == b)) 2
  else if x == 2 then m
  else if m.tx.toList == ByteArray.toList ⟨#[60]⟩ then litR m (bit (decide (a < b))) 2
  else if (if m.tx.toList == ByteArray.toList ⟨#[47]⟩ then b == 0 else false) then m
  else if m.tx.toList == ByteArray.toList ⟨#[43]⟩ then refF m (IntKind.i64.wrap (a + b))
  else if m.tx.toList == ByteArray.toList ⟨#[45]⟩ then refF m (IntKind.i64.wrap (a - b))
  else if m.tx.toList == ByteArray.toList ⟨#[42]⟩ then refF m (IntKind.i64.wrap (a * b))
  else if m.tx.toList == ByteArray.toList ⟨#[47]⟩ then refF m (IntKind.i64.wrap (a.tdiv b))
  else m
def refT (m : Nd) : Nd := match m.cs with
  | [a] => if m.k == 40 then refU m (valN a).1 (srt (valN a)) else m
  | [a, b] => if m.k == 39 then refB m b (valN a).1 (srt (valN a)) (valN b).1 (srt (valN b)) else m
  | _ => m
theorem val_cases (n : Nd) : valN n = (0, false, false) ∨ (∃ v, valN n = (v, false, true) ∧ -2147483648 < v ∧ v ≤ 2147483647) ∨ valN n = (0, true, true) ∨ valN n = (1, true, true) := by
  generalize hr : valN n = r
  have hg := @val_range n
  rw [hr] at hg
  unfold valN at hr
  repeat' split at hr
  all_goals first
    | exact .inl hr.symm
    | (subst hr; exact .inr (.inl ⟨_, rfl, hg rfl rfl⟩))
    | (subst hr; rename_i h; simp only [beq_iff_eq] at h; rw [h]; first | exact .inr (.inr (.inl rfl)) | exact .inr (.inr (.inr rfl)))
theorem litR_bool (m : Nd) (b : Bool) : litR m (bit b) 2 = boolN m b := by cases b <;> rfl
theorem litR_one (m : Nd) : litR m 1 2 = boolN m true := rfl
theorem litR_zero (m : Nd) : litR m 0 2 = boolN m false := rfl
theorem litR_int (m : Nd) {r : Int} (h0 : -2147483648 < r) (h1 : r ≤ 2147483647) : litR m r 1 = intN m r := by
  unfold litR intN
  rw [mag_eq h0 h1, wneg (by omega) (by omega)]
  by_cases h : r < 0 <;> simp [h]
theorem refF_eq (m : Nd) (r : Int) : refF m r = if (finN r).2 then intN m (finN r).1 else m := by
  unfold refF finN inR
  by_cases h0 : -2147483648 < r
  · by_cases h1 : r ≤ 2147483647
    · have h2 : -2147483647 ≤ r := by omega
      simp [h0, h1, h2, litR_int m h0 h1]
    · have h2 : -2147483647 ≤ r := by omega
      simp [h0, h1, h2]
  · have h2 : ¬ -2147483647 ≤ r := by omega
    simp [h0, h2]
theorem refU_eq (m a : Nd) : foldU m a = refU m (valN a).1 (srt (valN a)) := by
  unfold foldU refU
  rcases val_cases a with e | ⟨v, e, h0, h1⟩ | e | e <;> rw [e] <;> simp only [srt]
  · simp
  · by_cases h2 : m.tx.toList == ByteArray.toList ⟨#[45]⟩
    · by_cases h3 : v ≤ 0
      · have h4 : v < 1 := by omega
        simp [h2, h3, h4]
        rw [show -v = 0 - v by omega, wneg (by omega) (by omega), litR_int m (by omega) (by omega)]
      · have h4 : ¬ v < 1 := by omega
        simp [h2, h3, h4]
    · rw [if_neg h2, if_neg h2]; simp
  · have : litR m (IntKind.i64.wrap (1 - 0)) 2 = boolN m true := rfl
    by_cases h2 : m.tx.toList == ByteArray.toList ⟨#[33]⟩ <;> simp [h2] <;> first | rfl | exact this.symm
  · have : litR m (IntKind.i64.wrap (1 - 1)) 2 = boolN m false := rfl
    by_cases h2 : m.tx.toList == ByteArray.toList ⟨#[33]⟩ <;> simp [h2] <;> first | rfl | exact this.symm
theorem tx_cases (x : List UInt8) :
    ((x == ByteArray.toList ⟨#[38, 38]⟩) = true ∧ (x == ByteArray.toList ⟨#[124, 124]⟩) = false ∧ (x == ByteArray.toList ⟨#[61, 61]⟩) = false ∧ (x == ByteArray.toList ⟨#[60]⟩) = false ∧ (x == ByteArray.toList ⟨#[47]⟩) = false ∧ (x == ByteArray.toList ⟨#[43]⟩) = false ∧ (x == ByteArray.toList ⟨#[45]⟩) = false ∧ (x == ByteArray.toList ⟨#[42]⟩) = false) ∨
    ((x == ByteArray.toList ⟨#[38, 38]⟩) = false ∧ (x == ByteArray.toList ⟨#[124, 124]⟩) = true ∧ (x == ByteArray.toList ⟨#[61, 61]⟩) = false ∧ (x == ByteArray.toList ⟨#[60]⟩) = false ∧ (x == ByteArray.toList ⟨#[47]⟩) = false ∧ (x == ByteArray.toList ⟨#[43]⟩) = false ∧ (x == ByteArray.toList ⟨#[45]⟩) = false ∧ (x == ByteArray.toList ⟨#[42]⟩) = false) ∨
    ((x == ByteArray.toList ⟨#[38, 38]⟩) = false ∧ (x == ByteArray.toList ⟨#[124, 124]⟩) = false ∧ (x == ByteArray.toList ⟨#[61, 61]⟩) = true ∧ (x == ByteArray.toList ⟨#[60]⟩) = false ∧ (x == ByteArray.toList ⟨#[47]⟩) = false ∧ (x == ByteArray.toList ⟨#[43]⟩) = false ∧ (x == ByteArray.toList ⟨#[45]⟩) = false ∧ (x == ByteArray.toList ⟨#[42]⟩) = false) ∨
    ((x == ByteArray.toList ⟨#[38, 38]⟩) = false ∧ (x == ByteArray.toList ⟨#[124, 124]⟩) = false ∧ (x == ByteArray.toList ⟨#[61, 61]⟩) = false ∧ (x == ByteArray.toList ⟨#[60]⟩) = true ∧ (x == ByteArray.toList ⟨#[47]⟩) = false ∧ (x == ByteArray.toList ⟨#[43]⟩) = false ∧ (x == ByteArray.toList ⟨#[45]⟩) = false ∧ (x == ByteArray.toList ⟨#[42]⟩) = false) ∨
    ((x == ByteArray.toList ⟨#[38, 38]⟩) = false ∧ (x == ByteArray.toList ⟨#[124, 124]⟩) = false ∧ (x == ByteArray.toList ⟨#[61, 61]⟩) = false ∧ (x == ByteArray.toList ⟨#[60]⟩) = false ∧ (x == ByteArray.toList ⟨#[47]⟩) = true ∧ (x == ByteArray.toList ⟨#[43]⟩) = false ∧ (x == ByteArray.toList ⟨#[45]⟩) = false ∧ (x == ByteArray.toList ⟨#[42]⟩) = false) ∨
    ((x == ByteArray.toList ⟨#[38, 38]⟩) = false ∧ (x == ByteArray.toList ⟨#[124, 124]⟩) = false ∧ (x == ByteArray.toList ⟨#[61, 61]⟩) = false ∧ (x == ByteArray.toList ⟨#[60]⟩) = false ∧ (x == ByteArray.toList ⟨#[47]⟩) = false ∧ (x == ByteArray.toList ⟨#[43]⟩) = true ∧ (x == ByteArray.toList ⟨#[45]⟩) = false ∧ (x == ByteArray.toList ⟨#[42]⟩) = false) ∨
    ((x == ByteArray.toList ⟨#[38, 38]⟩) = false ∧ (x == ByteArray.toList ⟨#[124, 124]⟩) = false ∧ (x == ByteArray.toList ⟨#[61, 61]⟩) = false ∧ (x == ByteArray.toList ⟨#[60]⟩) = false ∧ (x == ByteArray.toList ⟨#[47]⟩) = false ∧ (x == ByteArray.toList ⟨#[43]⟩) = false ∧ (x == ByteArray.toList ⟨#[45]⟩) = true ∧ (x == ByteArray.toList ⟨#[42]⟩) = false) ∨
    ((x == ByteArray.toList ⟨#[38, 38]⟩) = false ∧ (x == ByteArray.toList ⟨#[124, 124]⟩) = false ∧ (x == ByteArray.toList ⟨#[61, 61]⟩) = false ∧ (x == ByteArray.toList ⟨#[60]⟩) = false ∧ (x == ByteArray.toList ⟨#[47]⟩) = false ∧ (x == ByteArray.toList ⟨#[43]⟩) = false ∧ (x == ByteArray.toList ⟨#[45]⟩) = false ∧ (x == ByteArray.toList ⟨#[42]⟩) = true) ∨
    ((x == ByteArray.toList ⟨#[38, 38]⟩) = false ∧ (x == ByteArray.toList ⟨#[124, 124]⟩) = false ∧ (x == ByteArray.toList ⟨#[61, 61]⟩) = false ∧ (x == ByteArray.toList ⟨#[60]⟩) = false ∧ (x == ByteArray.toList ⟨#[47]⟩) = false ∧ (x == ByteArray.toList ⟨#[43]⟩) = false ∧ (x == ByteArray.toList ⟨#[45]⟩) = false ∧ (x == ByteArray.toList ⟨#[42]⟩) = false) := by
  by_cases h0 : x = [38, 38]
  · subst h0; exact .inl ⟨by kernel_rfl, by kernel_rfl, by kernel_rfl, by kernel_rfl, by kernel_rfl, by kernel_rfl, by kernel_rfl, by kernel_rfl⟩
  by_cases h1 : x = [124, 124]
  · subst h1; exact .inr (.inl ⟨by kernel_rfl, by kernel_rfl, by kernel_rfl, by kernel_rfl, by kernel_rfl, by kernel_rfl, by kernel_rfl, by kernel_rfl⟩)
  by_cases h2 : x = [61, 61]
  · subst h2; exact .inr (.inr (.inl ⟨by kernel_rfl, by kernel_rfl, by kernel_rfl, by kernel_rfl, by kernel_rfl, by kernel_rfl, by kernel_rfl, by kernel_rfl⟩))
  by_cases h3 : x = [60]
  · subst h3; exact .inr (.inr (.inr (.inl ⟨by kernel_rfl, by kernel_rfl, by kernel_rfl, by kernel_rfl, by kernel_rfl, by kernel_rfl, by kernel_rfl, by kernel_rfl⟩)))
  by_cases h4 : x = [47]
  · subst h4; exact .inr (.inr (.inr (.inr (.inl ⟨by kernel_rfl, by kernel_rfl, by kernel_rfl, by kernel_rfl, by kernel_rfl, by kernel_rfl, by kernel_rfl, by kernel_rfl⟩))))
  by_cases h5 : x = [43]
  · subst h5; exact .inr (.inr (.inr (.inr (.inr (.inl ⟨by kernel_rfl, by kernel_rfl, by kernel_rfl, by kernel_rfl, by kernel_rfl, by kernel_rfl, by kernel_rfl, by kernel_rfl⟩)))))
  by_cases h6 : x = [45]
  · subst h6; exact .inr (.inr (.inr (.inr (.inr (.inr (.inl ⟨by kernel_rfl, by kernel_rfl, by kernel_rfl, by kernel_rfl, by kernel_rfl, by kernel_rfl, by kernel_rfl, by kernel_rfl⟩))))))
  by_cases h7 : x = [42]
  · subst h7; exact .inr (.inr (.inr (.inr (.inr (.inr (.inr (.inl ⟨by kernel_rfl, by kernel_rfl, by kernel_rfl, by kernel_rfl, by kernel_rfl, by kernel_rfl, by kernel_rfl, by kernel_rfl⟩)))))))
  exact .inr (.inr (.inr (.inr (.inr (.inr (.inr (.inr (⟨by simpa using h0, by simpa using h1, by simpa using h2, by simpa using h3, by simpa using h4, by simpa using h5, by simpa using h6, by simpa using h7⟩))))))))
theorem tx_cases' (x : List UInt8) : x = [38, 38] ∨ x = [124, 124] ∨ x = [61, 61] ∨ x = [60] ∨ x = [47] ∨ x = [43] ∨ x = [45] ∨ x = [42] ∨ (¬ x = [38, 38] ∧ ¬ x = [124, 124] ∧ ¬ x = [61, 61] ∧ ¬ x = [60] ∧ ¬ x = [47] ∧ ¬ x = [43] ∧ ¬ x = [45] ∧ ¬ x = [42]) := by
  by_cases h0 : x = [38, 38]
  · simp [h0]
  by_cases h1 : x = [124, 124]
  · simp [h1]
  by_cases h2 : x = [61, 61]
  · simp [h2]
  by_cases h3 : x = [60]
  · simp [h3]
  by_cases h4 : x = [47]
  · simp [h4]
  by_cases h5 : x = [43]
  · simp [h5]
  by_cases h6 : x = [45]
  · simp [h6]
  by_cases h7 : x = [42]
  · simp [h7]
  simp [h0, h1, h2, h3, h4, h5, h6, h7]
theorem refB_eq (m a b : Nd) : foldB m a b = refB m b (valN a).1 (srt (valN a)) (valN b).1 (srt (valN b)) := by
  unfold foldB refB
  rcases val_cases a with ea | ⟨v, ea, h0, h1⟩ | ea | ea <;> rcases val_cases b with eb | ⟨w, eb, h2, h3⟩ | eb | eb <;> rw [ea, eb] <;> simp only [srt] <;>
    rcases tx_cases' m.tx.toList with hs | hs | hs | hs | hs | hs | hs | hs | hs <;> simp [hs, arithN, refF_eq, litR_bool, litR_one, litR_zero]
  all_goals (by_cases hw : w = 0 <;> simp [hw])
theorem refT_eq (m : Nd) : foldT m = refT m := by
  obtain ⟨k, v, tx, st, en, ns, cs⟩ := m
  unfold foldT refT
  simp only [Nd.k, Nd.cs]
  match cs with
  | [] => simp
  | [a] => simp [hdN, refU_eq]
  | [a, b] => simp [hdN, refB_eq]
  | a :: b :: c :: r =>
    have h1 : ¬ ((r.length : Int) + 1 + 1 + 1 = 2) := by omega
    have h2 : ¬ ((r.length : Int) + 1 + 1 + 1 = 1) := by omega
    simp [h1, h2]
end Go.Proofs.Ytgphapkpoamcgaa
