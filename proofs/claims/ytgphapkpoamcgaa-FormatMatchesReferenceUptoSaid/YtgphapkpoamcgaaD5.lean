/- Resolutions, as they are read. -/
import Derived.Test.YtgphapkpoamcgaaD2
import Derived.Test.YtgphapkpoamcgaaF1
namespace Go.Proofs.Ytgphapkpoamcgaa
open Go Go.Ab
theorem any_slice {P : Program} {t e : TypeId} {n : Nat} {qs : List PV} (hu : P.underlying t = some (.slice e)) (h : TyS P n t qs) : ∃ q, qs = [q] := by
  cases n with
  | zero => exact h.elim
  | succ n => unfold TyS at h; rw [hu] at h; obtain ⟨xs, rfl, _⟩ := h; exact ⟨_, rfl⟩
theorem sy_of (n : Nat) (qs : List PV) (h : TyS Try.prog n 117 qs) : ∃ s : Sy, wr Try.prog 117 qs = s.enc := by
  obtain ⟨m, hm, hf, hw⟩ := struct_of Try.underlying117 h
  rw [hw]
  simp only [TySF] at hf
  obtain ⟨_, _, rfl, h1, _, _, rfl, h2, _, _, rfl, h3, _, _, rfl, h4, _, _, rfl, h5, _, _, rfl, h6, rfl⟩ := hf
  obtain ⟨a, rfl⟩ := int_of Try.underlying3 h1
  obtain ⟨b, rfl⟩ := int_of Try.underlying3 h2
  obtain ⟨c, rfl⟩ := int_of Try.underlying3 h3
  obtain ⟨d, rfl⟩ := int_of Try.underlying3 h4
  obtain ⟨e, rfl⟩ := str_of Try.underlying9 h5
  obtain ⟨f, rfl⟩ := bool_of Try.underlying4 h6
  exact ⟨⟨a, b, c, d, e.data.toList, f⟩, rfl⟩
theorem res_of (n : Nat) (qs : List PV) (h : TyS Try.prog n 70 qs) : ∃ (ss : List Sy) (p q : PV), wr Try.prog 70 qs = rsv ss p q := by
  obtain ⟨m, hm, hf, hw⟩ := struct_of Try.underlying70 h
  rw [hw]
  simp only [TySF] at hf
  obtain ⟨_, _, rfl, h1, _, _, rfl, h2, _, _, rfl, h3, rfl⟩ := hf
  obtain ⟨ss, rfl⟩ := slice_of (f := Sy.enc) Try.underlying66 h1 fun j hj ds hd => sy_of j ds hd
  obtain ⟨p, rfl⟩ := any_slice Try.underlying67 h2
  obtain ⟨q, rfl⟩ := any_slice Try.underlying68 h3
  refine ⟨ss, p, q, ?_⟩
  rw [show Try.prog.cellsOf 117 = 6 by kernel_rfl]
  rfl
theorem sy_bk : ∀ (ss : List Sy), ∀ s ∈ ss, s.nm.length ≤ PV.bkL (encS ss)
  | [], s, h => by cases h
  | x :: xs, s, h => by
    simp only [encS, List.map_cons, PV.bkL]
    rcases List.mem_cons.1 h with rfl | h
    · simp only [Sy.enc, PV.bk, PV.bkL, ByteArray.size]
      simp only [List.size_toArray]; omega
    · have := sy_bk xs s h
      simp only [encS] at this; omega
end Go.Proofs.Ytgphapkpoamcgaa
