/- A node and a type, as they are read. -/
import Derived.Test.YtgphapkpoamcgaaD0
import Derived.Test.YtgphapkpoamcgaaS0
namespace Go.Proofs.Ytgphapkpoamcgaa
open Go Go.Ab
theorem ty_of : ∀ (n : Nat) (qs : List PV), TyS Try.prog n 24 qs → ∃ t : Ty, wr Try.prog 24 qs = t.enc := by
  intro n
  induction n using Nat.strongRecOn with
  | _ n ih =>
    intro qs h
    obtain ⟨m, hm, hf, hw⟩ := struct_of Try.underlying24 h
    rw [hw]
    simp only [TySF] at hf
    obtain ⟨_, _, rfl, h1, _, _, rfl, h2, _, _, rfl, h3, rfl⟩ := hf
    obtain ⟨k, rfl⟩ := int_of Try.underlying3 h1
    obtain ⟨v, rfl⟩ := int_of Try.underlying3 h2
    obtain ⟨cs, rfl⟩ := slice_of (f := Ty.enc) Try.underlying22 h3 fun j hj ds hd => ih j (by omega) ds hd
    refine ⟨.mk k v cs, ?_⟩
    rw [show Try.prog.cellsOf 24 = 3 by kernel_rfl]
    simp only [Ty.enc, encL_map, List.cons_append, List.nil_append, List.append_nil]
theorem tys_of (n : Nat) (qs : List PV) (h : TyS Try.prog n 22 qs) : ∃ ts : List Ty, wr Try.prog 22 qs = .list 3 (encL ts) := by
  obtain ⟨ts, rfl⟩ := slice_of (f := Ty.enc) Try.underlying22 h fun j hj ds hd => ty_of j ds hd
  refine ⟨ts, ?_⟩
  rw [show Try.prog.cellsOf 24 = 3 by kernel_rfl]
  simp [wr, isSt, Try.underlying22, encL_map]
end Go.Proofs.Ytgphapkpoamcgaa
