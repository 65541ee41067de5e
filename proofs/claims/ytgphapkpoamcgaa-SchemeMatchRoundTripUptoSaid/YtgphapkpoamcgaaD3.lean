/- Lists of integers, as they are read. -/
import Derived.Test.YtgphapkpoamcgaaD1
import Derived.Test.YtgphapkpoamcgaaS4
namespace Go.Proofs.Ytgphapkpoamcgaa
open Go Go.Ab
theorem ints_of (n : Nat) (qs : List PV) (h : TyS Try.prog n 25 qs) : ∃ ps : List Int, wr Try.prog 25 qs = .list 1 (encI ps) := by
  obtain ⟨ts, rfl⟩ := slice_of (f := fun x => ii x) Try.underlying25 h fun j hj ds hd => by
    obtain ⟨a, rfl⟩ := int_of Try.underlying3 hd
    exact ⟨a, wr_int Try.underlying3⟩
  refine ⟨ts, ?_⟩
  rw [show Try.prog.cellsOf 3 = 1 by kernel_rfl]
  simp [wr, isSt, Try.underlying25, encI]
end Go.Proofs.Ytgphapkpoamcgaa
