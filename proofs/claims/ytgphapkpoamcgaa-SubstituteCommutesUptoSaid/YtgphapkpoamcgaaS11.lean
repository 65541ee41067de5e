/- SubstituteCommutes: for every three types and every two variables the law returns true. Condition: what comes in is of bulk at most 1048576. -/
import Derived.Test.YtgphapkpoamcgaaS9
import Derived.Test.YtgphapkpoamcgaaD2
set_option maxRecDepth 100000
namespace Go.Proofs.Ytgphapkpoamcgaa.substituteCommutes
open Go.ChangeShapes Go.WideShapes Go.ChangeAt Go.RowKit Go.Ab
theorem own : ownKnob Try.prog.godebug = none := by kernel_rfl
theorem laid : laidOutB Try.prog = true := by kernel_rfl
theorem call : ∀ qs, ArgS Try.prog Try.f9.params.toList qs → PV.bkL qs ≤ 1048576 → PCall Try.prog 9 qs (.lit (.bool true)) := by
  intro qs h hb
  rw [Try.params9] at h
  obtain ⟨n1, c1, q1, h1, rfl, n2, c2, q2, h2, rfl, n3, c3, q3, h3, rfl, n4, c4, q4, h4, rfl, n5, c5, q5, h5, rfl, rfl⟩ := h
  obtain ⟨t, e1⟩ := ty_of _ _ h1
  obtain ⟨a, e2⟩ := ty_of _ _ h2
  obtain ⟨b, e3⟩ := ty_of _ _ h3
  obtain ⟨x, rfl⟩ := int_of Try.underlying3 h4
  obtain ⟨y, rfl⟩ := int_of Try.underlying3 h5
  rw [e1, e2, e3, wr_int Try.underlying3, wr_int Try.underlying3] at hb ⊢
  simp only [PV.bkL] at hb
  have b1 := nds_bk a
  have b2 := nds_bk b
  exact nine_ok t a b x y (by omega) (by omega)
theorem lifted (os : Os) (started : os.Started) (H : Type) (enc : TypeId × Value → H) (F : Stop.Interp) :
    ReturnsInHanded {} Try.checked os 9 .any ((Rows.OpenSpec.upto Rows.substituteCommutesSpec).pre6 enc Try.prog Try.f9 Rows.substituteCommutesUptoRow.domain false) (((Rows.OpenSpec.upto Rows.substituteCommutesSpec).at F).post enc Try.prog Try.f9 false true false false) := by
  refine returnsInHanded_of_cond (C := Try.checked) (s := Rows.OpenSpec.upto Rows.substituteCommutesSpec) (k := Rows.uptoSmall) rfl own started (by kernel_rfl) Try.func9
    (OpenSpec.witness (enc := enc) (C := Try.checked) (s := Rows.OpenSpec.upto Rows.substituteCommutesSpec) (k := Rows.uptoSmall) rfl false ⟨#[], #[.agg #[.int .i64 0, .int .i64 0, .slice none 0 0], .agg #[.int .i64 0, .int .i64 0, .slice none 0 0], .agg #[.int .i64 0, .int .i64 0, .slice none 0 0], .int .i64 0, .int .i64 0], []⟩ 8 (by kernel_rfl) (by kernel_rfl) (by kernel_rfl)
      (x := ([.agg [.lit (.int .i64 0), .lit (.int .i64 0), .nil], .agg [.lit (.int .i64 0), .lit (.int .i64 0), .nil], .agg [.lit (.int .i64 0), .lit (.int .i64 0), .nil], .lit (.int .i64 0), .lit (.int .i64 0)], [], [])) (by kernel_rfl) rfl (by kernel_rfl)) ?_
  intro W base args ds gs before hval hW _ hk _
  exact law_contract (S := [3, 22, 24]) laid (by kernel_rfl) rfl (by kernel_rfl) Try.underlying4 (by kernel_rfl) (by kernel_rfl) (fun ds hd => by
    rw [Try.params9] at hd
    match ds, hd with
    | [d1, d2, d3, d4, d5], _ => rfl) call hval hW hk
theorem proved : Rows.SubstituteCommutesUptoSaid :=
  OpenClaim.holds_of_cond 9 Try.f9 rfl rfl rfl rfl rfl rfl rfl ⟨rfl, rfl, rfl, rfl, rfl⟩ rfl rfl rfl rfl rfl (by kernel_rfl) Try.func9 (by kernel_rfl)
    (of_decide_eq_true (by kernel_rfl)) (by unfold Func.isWrapper; first | (rw [if_pos (by decide +kernel)]; kernel_rfl) | (rw [if_neg (by decide +kernel)]; exact ⟨rfl, rfl⟩))
    (fun os started H enc _ F => lifted os started H enc F)
end Go.Proofs.Ytgphapkpoamcgaa.substituteCommutes
