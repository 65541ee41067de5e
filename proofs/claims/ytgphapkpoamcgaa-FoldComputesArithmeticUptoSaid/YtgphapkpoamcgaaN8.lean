/- FoldComputesArithmetic: for every three integers the law returns true. Condition: what comes in is of bulk at most 1048576. -/
import Derived.Test.YtgphapkpoamcgaaN6
import Derived.Test.YtgphapkpoamcgaaE0
set_option maxRecDepth 100000
namespace Go.Proofs.Ytgphapkpoamcgaa.foldComputesArithmetic
open Go.ChangeShapes Go.WideShapes Go.ChangeAt Go.RowKit Go.Ab
theorem own : ownKnob Try.prog.godebug = none := by kernel_rfl
theorem laid : laidOutB Try.prog = true := by kernel_rfl
theorem call : ∀ qs, ArgS Try.prog Try.f6.params.toList qs → PV.bkL qs ≤ 1048576 → PCall Try.prog 6 qs (.lit (.bool true)) := by
  intro qs h _
  rw [Try.params6] at h
  obtain ⟨n1, c1, q1, h1, rfl, n2, c2, q2, h2, rfl, n3, c3, q3, h3, rfl, rfl⟩ := h
  obtain ⟨a, rfl⟩ := int_of Try.underlying3 h1
  obtain ⟨b, rfl⟩ := int_of Try.underlying3 h2
  obtain ⟨c, rfl⟩ := int_of Try.underlying3 h3
  rw [wr_int Try.underlying3, wr_int Try.underlying3, wr_int Try.underlying3]
  exact six_ok a b c
theorem lifted (os : Os) (started : os.Started) (H : Type) (enc : TypeId × Value → H) (F : Stop.Interp) :
    ReturnsInHanded {} Try.checked os 6 .any ((Rows.OpenSpec.upto Rows.foldComputesArithmeticSpec).pre6 enc Try.prog Try.f6 Rows.foldComputesArithmeticUptoRow.domain false) (((Rows.OpenSpec.upto Rows.foldComputesArithmeticSpec).at F).post enc Try.prog Try.f6 false true false false) := by
  refine returnsInHanded_of_cond (C := Try.checked) (s := Rows.OpenSpec.upto Rows.foldComputesArithmeticSpec) (k := Rows.uptoSmall) rfl own started (by kernel_rfl) Try.func6
    (OpenSpec.witness (enc := enc) (C := Try.checked) (s := Rows.OpenSpec.upto Rows.foldComputesArithmeticSpec) (k := Rows.uptoSmall) rfl false ⟨#[], #[.int .i64 0, .int .i64 0, .int .i64 0], []⟩ 8 (by kernel_rfl) (by kernel_rfl) (by kernel_rfl)
      (x := ([.lit (.int .i64 0), .lit (.int .i64 0), .lit (.int .i64 0)], [], [])) (by kernel_rfl) rfl (by kernel_rfl)) ?_
  intro W base args ds gs before hval hW _ hk _
  exact law_contract (S := [3]) laid (by kernel_rfl) rfl (by kernel_rfl) Try.underlying4 (by kernel_rfl) (by kernel_rfl) (fun ds hd => by
    rw [Try.params6] at hd
    match ds, hd with
    | [d1, d2, d3], _ => rfl) call hval hW hk
theorem proved : Rows.FoldComputesArithmeticUptoSaid :=
  OpenClaim.holds_of_cond 6 Try.f6 rfl rfl rfl rfl rfl rfl rfl ⟨rfl, rfl, rfl, rfl, rfl⟩ rfl rfl rfl rfl rfl (by kernel_rfl) Try.func6 (by kernel_rfl)
    (of_decide_eq_true (by kernel_rfl)) (by unfold Func.isWrapper; first | (rw [if_pos (by decide +kernel)]; kernel_rfl) | (rw [if_neg (by decide +kernel)]; exact ⟨rfl, rfl⟩))
    (fun os started H enc _ F => lifted os started H enc F)
end Go.Proofs.Ytgphapkpoamcgaa.foldComputesArithmetic
