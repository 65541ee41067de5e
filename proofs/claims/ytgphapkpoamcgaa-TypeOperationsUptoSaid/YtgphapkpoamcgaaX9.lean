/- TypeOperations: for every two types and every list of bindings the law returns true. Condition: what comes in is of bulk at most 1048576. -/
import Derived.Test.YtgphapkpoamcgaaX8
import Derived.Test.YtgphapkpoamcgaaD2
import Derived.Test.YtgphapkpoamcgaaD4
set_option maxRecDepth 100000
namespace Go.Proofs.Ytgphapkpoamcgaa.typeOperations
open Go.ChangeShapes Go.WideShapes Go.ChangeAt Go.RowKit Go.Ab
theorem own : ownKnob Try.prog.godebug = none := by kernel_rfl
theorem laid : laidOutB Try.prog = true := by kernel_rfl
theorem call : ∀ qs, ArgS Try.prog Try.f10.params.toList qs → PV.bkL qs ≤ 1048576 → PCall Try.prog 10 qs (.lit (.bool true)) := by
  intro qs h hb
  rw [Try.params10] at h
  obtain ⟨n1, c1, q1, h1, rfl, n2, c2, q2, h2, rfl, n3, c3, q3, h3, rfl, rfl⟩ := h
  obtain ⟨t, e1⟩ := ty_of _ _ h1
  obtain ⟨r, e2⟩ := ty_of _ _ h2
  obtain ⟨s, e3⟩ := bds_of _ _ h3
  rw [e1, e2, e3] at hb ⊢
  simp only [PV.bkL] at hb
  have b1 := nds_bk t
  exact ten_ok t r s (by omega)
theorem lifted (os : Os) (started : os.Started) (H : Type) (enc : TypeId × Value → H) (F : Stop.Interp) :
    ReturnsInHanded {} Try.checked os 10 .any ((Rows.OpenSpec.upto Rows.typeOperationsSpec).pre6 enc Try.prog Try.f10 Rows.typeOperationsUptoRow.domain false) (((Rows.OpenSpec.upto Rows.typeOperationsSpec).at F).post enc Try.prog Try.f10 false true false false) := by
  refine returnsInHanded_of_cond (C := Try.checked) (s := Rows.OpenSpec.upto Rows.typeOperationsSpec) (k := Rows.uptoSmall) rfl own started (by kernel_rfl) Try.func10
    (OpenSpec.witness (enc := enc) (C := Try.checked) (s := Rows.OpenSpec.upto Rows.typeOperationsSpec) (k := Rows.uptoSmall) rfl false ⟨#[], #[.agg #[.int .i64 0, .int .i64 0, .slice none 0 0], .agg #[.int .i64 0, .int .i64 0, .slice none 0 0], .slice none 0 0], []⟩ 8 (by kernel_rfl) (by kernel_rfl) (by kernel_rfl)
      (x := ([.agg [.lit (.int .i64 0), .lit (.int .i64 0), .nil], .agg [.lit (.int .i64 0), .lit (.int .i64 0), .nil], .nil], [], [])) (by kernel_rfl) rfl (by kernel_rfl)) ?_
  intro W base args ds gs before hval hW _ hk _
  exact law_contract (S := [3, 22, 24, 57, 58]) laid (by kernel_rfl) rfl (by kernel_rfl) Try.underlying4 (by kernel_rfl) (by kernel_rfl) (fun ds hd => by
    rw [Try.params10] at hd
    match ds, hd with
    | [d1, d2, d3], _ => rfl) call hval hW hk
theorem proved : Rows.TypeOperationsUptoSaid :=
  OpenClaim.holds_of_cond 10 Try.f10 rfl rfl rfl rfl rfl rfl rfl ⟨rfl, rfl, rfl, rfl, rfl⟩ rfl rfl rfl rfl rfl (by kernel_rfl) Try.func10 (by kernel_rfl)
    (of_decide_eq_true (by kernel_rfl)) (by unfold Func.isWrapper; first | (rw [if_pos (by decide +kernel)]; kernel_rfl) | (rw [if_neg (by decide +kernel)]; exact ⟨rfl, rfl⟩))
    (fun os started H enc _ F => lifted os started H enc F)
end Go.Proofs.Ytgphapkpoamcgaa.typeOperations
