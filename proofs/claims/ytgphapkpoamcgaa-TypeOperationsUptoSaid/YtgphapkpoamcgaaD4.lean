/- Lists of type bindings, as they are read. -/
import Derived.Test.YtgphapkpoamcgaaD1
import Derived.Test.YtgphapkpoamcgaaS4
namespace Go.Proofs.Ytgphapkpoamcgaa
open Go Go.Ab
theorem bd_of (n : Nat) (qs : List PV) (h : TyS Try.prog n 57 qs) : ∃ b : Bd, wr Try.prog 57 qs = b.enc := by
  obtain ⟨m, hm, hf, hw⟩ := struct_of Try.underlying57 h
  rw [hw]
  simp only [TySF] at hf
  obtain ⟨_, _, rfl, h1, _, w, rfl, h2, rfl⟩ := hf
  obtain ⟨k, rfl⟩ := int_of Try.underlying3 h1
  obtain ⟨t, e⟩ := ty_of _ _ h2
  cases t with
  | mk a b cs =>
    simp only [wr, isSt, Try.underlying24, if_true, Ty.enc, PV.agg.injEq] at e
    refine ⟨⟨k, .mk a b cs⟩, ?_⟩
    simp only [e, List.append_nil, Bd.enc, List.cons_append, List.nil_append, Ty.kd, Ty.id, Ty.args]
theorem bds_of (n : Nat) (qs : List PV) (h : TyS Try.prog n 58 qs) : ∃ ps : List Bd, wr Try.prog 58 qs = .list 4 (encB ps) := by
  obtain ⟨ts, rfl⟩ := slice_of (f := Bd.enc) Try.underlying58 h fun j hj ds hd => bd_of j ds hd
  refine ⟨ts, ?_⟩
  rw [show Try.prog.cellsOf 57 = 4 by kernel_rfl]
  simp [wr, isSt, Try.underlying58, encB]
end Go.Proofs.Ytgphapkpoamcgaa
