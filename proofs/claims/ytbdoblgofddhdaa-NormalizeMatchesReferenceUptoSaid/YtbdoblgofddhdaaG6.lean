/- G6: joined from D10. -/
import Derived.Test.YtbdoblgofddhdaaG3
import Derived.Test.YtbdoblgofddhdaaM1
/- Resolutions, as they are read. -/
namespace Go.Proofs.Ytbdoblgofddhdaa
open Go Go.Ab
theorem sym_of (n : Nat) (qs : List PV) (h : TyS Try.prog n 125 qs) : ∃ b : Sy, wr Try.prog 125 qs = b.enc := by
  obtain ⟨m, hm, hf, hw⟩ := struct_of Try.underlying125 h
  rw [hw]
  simp only [TySF] at hf
  obtain ⟨_, _, rfl, h1, _, _, rfl, h2, _, _, rfl, h3, _, _, rfl, h4, _, _, rfl, h5, _, _, rfl, h6, rfl⟩ := hf
  obtain ⟨a, rfl⟩ := int_of Try.underlying3 h1
  obtain ⟨b, rfl⟩ := int_of Try.underlying3 h2
  obtain ⟨c, rfl⟩ := int_of Try.underlying3 h3
  obtain ⟨d, rfl⟩ := int_of Try.underlying3 h4
  obtain ⟨s, rfl⟩ := str_of Try.underlying9 h5
  obtain ⟨p, rfl⟩ := bool_of Try.underlying4 h6
  exact ⟨⟨a, b, c, d, s, _⟩, rfl⟩
theorem syms1_of (n : Nat) (qs : List PV) (h : TyS Try.prog n 46 qs) : ∃ bs : List Sy, qs = [.list 6 (encSy bs)] := by
  obtain ⟨ts, rfl⟩ := slice_of (f := Sy.enc) Try.underlying46 h fun j hj ds hd => sym_of j ds hd
  refine ⟨ts, ?_⟩
  rw [show Try.prog.cellsOf 125 = 6 by kernel_rfl]; rfl
theorem resn_of (n : Nat) (qs : List PV) (h : TyS Try.prog n 50 qs) : ∃ (sy : List Sy) (r1 r2 : PV), wr Try.prog 50 qs = .agg [.list 6 (encSy sy), r1, r2] := by
  obtain ⟨m, hm, hf, hw⟩ := struct_of Try.underlying50 h
  rw [hw]
  simp only [TySF] at hf
  obtain ⟨_, _, rfl, h1, _, _, rfl, h2, _, _, rfl, h3, rfl⟩ := hf
  obtain ⟨sy, rfl⟩ := syms1_of _ _ h1
  obtain ⟨q, rfl⟩ := any_slice Try.underlying47 h2
  obtain ⟨p, rfl⟩ := any_slice Try.underlying48 h3
  exact ⟨sy, q, p, rfl⟩
end Go.Proofs.Ytbdoblgofddhdaa
