/- FoldMatchesReference: for every syntax node the law returns true. Condition: what comes in is of bulk at most 1048576. -/
import Derived.Test.YtgphapkpoamcgaaN16
import Derived.Test.YtgphapkpoamcgaaE1
set_option maxRecDepth 100000
namespace Go.Proofs.Ytgphapkpoamcgaa.foldMatchesReference
open Go.ChangeShapes Go.WideShapes Go.ChangeAt Go.RowKit Go.Ab
theorem own : ownKnob Try.prog.godebug = none := by kernel_rfl
theorem laid : laidOutB Try.prog = true := by kernel_rfl
theorem call : ∀ qs, ArgS Try.prog Try.f7.params.toList qs → PV.bkL qs ≤ 1048576 → PCall Try.prog 7 qs (.lit (.bool true)) := by
  intro qs h _
  rw [Try.params7] at h
  obtain ⟨n1, c1, q1, h1, rfl, rfl⟩ := h
  obtain ⟨a, e⟩ := nd_of _ _ h1
  rw [e]
  exact seven_ok a
theorem lifted (os : Os) (started : os.Started) (H : Type) (enc : TypeId × Value → H) (F : Stop.Interp) :
    ReturnsInHanded {} Try.checked os 7 .any ((Rows.OpenSpec.upto Rows.foldMatchesReferenceSpec).pre6 enc Try.prog Try.f7 Rows.foldMatchesReferenceUptoRow.domain false) (((Rows.OpenSpec.upto Rows.foldMatchesReferenceSpec).at F).post enc Try.prog Try.f7 false true false false) := by
  refine returnsInHanded_of_cond (C := Try.checked) (s := Rows.OpenSpec.upto Rows.foldMatchesReferenceSpec) (k := Rows.uptoSmall) rfl own started (by kernel_rfl) Try.func7
    (OpenSpec.witness (enc := enc) (C := Try.checked) (s := Rows.OpenSpec.upto Rows.foldMatchesReferenceSpec) (k := Rows.uptoSmall) rfl false ⟨#[], #[.agg #[.int .i64 0, .int .i64 0, .string .empty, .int .i64 0, .int .i64 0, .int .i64 0, .slice none 0 0]], []⟩ 8 (by kernel_rfl) (by kernel_rfl) (by kernel_rfl)
      (x := ([.agg [.lit (.int .i64 0), .lit (.int .i64 0), .lit (.string []), .lit (.int .i64 0), .lit (.int .i64 0), .lit (.int .i64 0), .nil]], [], [])) (by kernel_rfl) rfl (by kernel_rfl)) ?_
  intro W base args ds gs before hval hW _ hk _
  exact law_contract (S := [3, 9, 37, 39]) laid (by kernel_rfl) rfl (by kernel_rfl) Try.underlying4 (by kernel_rfl) (by kernel_rfl) (fun ds hd => by
    rw [Try.params7] at hd
    match ds, hd with
    | [d1], _ => rfl) call hval hW hk
theorem proved : Rows.FoldMatchesReferenceUptoSaid :=
  OpenClaim.holds_of_cond 7 Try.f7 rfl rfl rfl rfl rfl rfl rfl ⟨rfl, rfl, rfl, rfl, rfl⟩ rfl rfl rfl rfl rfl (by kernel_rfl) Try.func7 (by kernel_rfl)
    (of_decide_eq_true (by kernel_rfl)) (by unfold Func.isWrapper; first | (rw [if_pos (by decide +kernel)]; kernel_rfl) | (rw [if_neg (by decide +kernel)]; exact ⟨rfl, rfl⟩))
    (fun os started H enc _ F => lifted os started H enc F)
end Go.Proofs.Ytgphapkpoamcgaa.foldMatchesReference
