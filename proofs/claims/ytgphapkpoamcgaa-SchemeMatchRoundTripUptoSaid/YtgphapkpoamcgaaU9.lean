/- SchemeMatchRoundTrip: for every type, pattern, parameters and arguments the law returns true. Condition: what comes in is of bulk at most 1048576. -/
import Derived.Test.YtgphapkpoamcgaaU8
import Derived.Test.YtgphapkpoamcgaaD3
set_option maxRecDepth 100000
namespace Go.Proofs.Ytgphapkpoamcgaa.schemeMatchRoundTrip
open Go.ChangeShapes Go.WideShapes Go.ChangeAt Go.RowKit Go.Ab
theorem own : ownKnob Try.prog.godebug = none := by kernel_rfl
theorem laid : laidOutB Try.prog = true := by kernel_rfl
theorem call : ∀ qs, ArgS Try.prog Try.f3.params.toList qs → PV.bkL qs ≤ 1048576 → PCall Try.prog 3 qs (.lit (.bool true)) := by
  intro qs h hb
  rw [Try.params3] at h
  obtain ⟨n1, c1, q1, h1, rfl, n2, c2, q2, h2, rfl, n3, c3, q3, h3, rfl, n4, c4, q4, h4, rfl, rfl⟩ := h
  obtain ⟨t, e1⟩ := ty_of _ _ h1
  obtain ⟨p, e2⟩ := ty_of _ _ h2
  obtain ⟨ps, e3⟩ := ints_of _ _ h3
  obtain ⟨xs, e4⟩ := tys_of _ _ h4
  rw [e1, e2, e3, e4]
  exact three_ok t p ps xs
theorem lifted (os : Os) (started : os.Started) (H : Type) (enc : TypeId × Value → H) (F : Stop.Interp) :
    ReturnsInHanded {} Try.checked os 3 .any ((Rows.OpenSpec.upto Rows.schemeMatchRoundTripSpec).pre6 enc Try.prog Try.f3 Rows.schemeMatchRoundTripUptoRow.domain false) (((Rows.OpenSpec.upto Rows.schemeMatchRoundTripSpec).at F).post enc Try.prog Try.f3 false true false false) := by
  refine returnsInHanded_of_cond (C := Try.checked) (s := Rows.OpenSpec.upto Rows.schemeMatchRoundTripSpec) (k := Rows.uptoSmall) rfl own started (by kernel_rfl) Try.func3
    (OpenSpec.witness (enc := enc) (C := Try.checked) (s := Rows.OpenSpec.upto Rows.schemeMatchRoundTripSpec) (k := Rows.uptoSmall) rfl false ⟨#[], #[.agg #[.int .i64 0, .int .i64 0, .slice none 0 0], .agg #[.int .i64 0, .int .i64 0, .slice none 0 0], .slice none 0 0, .slice none 0 0], []⟩ 8 (by kernel_rfl) (by kernel_rfl) (by kernel_rfl)
      (x := ([.agg [.lit (.int .i64 0), .lit (.int .i64 0), .nil], .agg [.lit (.int .i64 0), .lit (.int .i64 0), .nil], .nil, .nil], [], [])) (by kernel_rfl) rfl (by kernel_rfl)) ?_
  intro W base args ds gs before hval hW _ hk _
  exact law_contract (S := [3, 22, 24, 25]) laid (by kernel_rfl) rfl (by kernel_rfl) Try.underlying4 (by kernel_rfl) (by kernel_rfl) (fun ds hd => by
    rw [Try.params3] at hd
    match ds, hd with
    | [d1, d2, d3, d4], _ => rfl) call hval hW hk
theorem proved : Rows.SchemeMatchRoundTripUptoSaid :=
  OpenClaim.holds_of_cond 3 Try.f3 rfl rfl rfl rfl rfl rfl rfl ⟨rfl, rfl, rfl, rfl, rfl⟩ rfl rfl rfl rfl rfl (by kernel_rfl) Try.func3 (by kernel_rfl)
    (of_decide_eq_true (by kernel_rfl)) (by unfold Func.isWrapper; first | (rw [if_pos (by decide +kernel)]; kernel_rfl) | (rw [if_neg (by decide +kernel)]; exact ⟨rfl, rfl⟩))
    (fun os started H enc _ F => lifted os started H enc F)
end Go.Proofs.Ytgphapkpoamcgaa.schemeMatchRoundTrip
