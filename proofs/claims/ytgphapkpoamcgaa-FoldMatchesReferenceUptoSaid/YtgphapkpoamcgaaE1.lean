/- A node and a type, as they are read. -/
import Derived.Test.YtgphapkpoamcgaaE0
import Derived.Test.YtgphapkpoamcgaaN0
namespace Go.Proofs.Ytgphapkpoamcgaa
open Go Go.Ab
theorem nd_of : ∀ (n : Nat) (qs : List PV), TyS Try.prog n 39 qs → ∃ t : Nd, wr Try.prog 39 qs = t.enc := by
  intro n
  induction n using Nat.strongRecOn with
  | _ n ih =>
    intro qs h
    obtain ⟨m, hm, hf, hw⟩ := struct_of Try.underlying39 h
    rw [hw]
    simp only [TySF] at hf
    obtain ⟨_, _, rfl, h1, _, _, rfl, h2, _, _, rfl, h3, _, _, rfl, h4, _, _, rfl, h5, _, _, rfl, h6, _, _, rfl, h7, rfl⟩ := hf
    obtain ⟨k, rfl⟩ := int_of Try.underlying3 h1
    obtain ⟨v, rfl⟩ := int_of Try.underlying3 h2
    obtain ⟨tx, rfl⟩ := str_of Try.underlying9 h3
    obtain ⟨st, rfl⟩ := int_of Try.underlying3 h4
    obtain ⟨en, rfl⟩ := int_of Try.underlying3 h5
    obtain ⟨ns, rfl⟩ := int_of Try.underlying3 h6
    obtain ⟨cs, rfl⟩ := slice_of (f := Nd.enc) Try.underlying37 h7 fun j hj ds hd => ih j (by omega) ds hd
    refine ⟨.mk k v tx st en ns cs, ?_⟩
    rw [show Try.prog.cellsOf 39 = 7 by kernel_rfl]
    simp only [Nd.enc, encN_map, List.cons_append, List.nil_append, List.append_nil]
theorem ty_of : ∀ (n : Nat) (qs : List PV), TyS Try.prog n 24 qs → ∃ t : Ty, wr Try.prog 24 qs = t.enc := by
  intro n
  induction n using Nat.strongRecOn with
  | _ n ih =>
    intro qs h
    obtain ⟨m, hm, hf, hw⟩ := struct_of Try.underlying24 h
    rw [hw]
    simp only [TySF] at hf
    obtain ⟨_, _, rfl, h1, _, _, rfl, h2, _, _, rfl, h3, rfl⟩ := hf
    obtain ⟨k, rfl⟩ := int_of Try.underlying3 h1
    obtain ⟨v, rfl⟩ := int_of Try.underlying3 h2
    obtain ⟨cs, rfl⟩ := slice_of (f := Ty.enc) Try.underlying22 h3 fun j hj ds hd => ih j (by omega) ds hd
    refine ⟨.mk k v cs, ?_⟩
    rw [show Try.prog.cellsOf 24 = 3 by kernel_rfl]
    simp only [Ty.enc, encL_map, List.cons_append, List.nil_append, List.append_nil]
end Go.Proofs.Ytgphapkpoamcgaa
