/- FormatMatchesReference: for every resolution and type the law returns true. Condition: what comes in is of bulk at most 1048576. -/
import Derived.Test.YtgphapkpoamcgaaF6
import Derived.Test.YtgphapkpoamcgaaD5
set_option maxRecDepth 100000
namespace Go.Proofs.Ytgphapkpoamcgaa.formatMatchesReference
open Go.ChangeShapes Go.WideShapes Go.ChangeAt Go.RowKit Go.Ab
theorem own : ownKnob Try.prog.godebug = none := by kernel_rfl
theorem laid : laidOutB Try.prog = true := by kernel_rfl
theorem call : ∀ qs, ArgS Try.prog Try.f11.params.toList qs → PV.bkL qs ≤ 1048576 → PCall Try.prog 11 qs (.lit (.bool true)) := by
  intro qs h hb
  rw [Try.params11] at h
  obtain ⟨n1, c1, q1, h1, rfl, n2, c2, q2, h2, rfl, rfl⟩ := h
  obtain ⟨ss, p, q, e1⟩ := res_of _ _ h1
  obtain ⟨t, e2⟩ := ty_of _ _ h2
  rw [e1, e2] at hb ⊢
  simp only [PV.bkL, PV.bk] at hb
  have b1 := nds_bk t
  exact eleven_ok ss p q t (fun s hs => by have := sy_bk ss s hs; omega) (by omega)
theorem lifted (os : Os) (started : os.Started) (H : Type) (enc : TypeId × Value → H) (F : Stop.Interp) :
    ReturnsInHanded {} Try.checked os 11 .any ((Rows.OpenSpec.upto Rows.formatMatchesReferenceSpec).pre6 enc Try.prog Try.f11 Rows.formatMatchesReferenceUptoRow.domain false) (((Rows.OpenSpec.upto Rows.formatMatchesReferenceSpec).at F).post enc Try.prog Try.f11 false true false false) := by
  refine returnsInHanded_of_cond (C := Try.checked) (s := Rows.OpenSpec.upto Rows.formatMatchesReferenceSpec) (k := Rows.uptoSmall) rfl own started (by kernel_rfl) Try.func11
    (OpenSpec.witness (enc := enc) (C := Try.checked) (s := Rows.OpenSpec.upto Rows.formatMatchesReferenceSpec) (k := Rows.uptoSmall) rfl false ⟨#[], #[.agg #[.slice none 0 0, .slice none 0 0, .slice none 0 0], .agg #[.int .i64 0, .int .i64 0, .slice none 0 0]], []⟩ 8 (by kernel_rfl) (by kernel_rfl) (by kernel_rfl)
      (x := ([.agg [.nil, .nil, .nil], .agg [.lit (.int .i64 0), .lit (.int .i64 0), .nil]], [], [])) (by kernel_rfl) rfl (by kernel_rfl)) ?_
  intro W base args ds gs before hval hW _ hk _
  exact law_contract (S := [3, 4, 9, 22, 24, 66, 67, 68, 70, 117, 174, 176, 53]) laid (by kernel_rfl) rfl (by kernel_rfl) Try.underlying4 (by kernel_rfl) (by kernel_rfl) (fun ds hd => by
    rw [Try.params11] at hd
    match ds, hd with
    | [d1, d2], _ => rfl) call hval hW hk
theorem proved : Rows.FormatMatchesReferenceUptoSaid :=
  OpenClaim.holds_of_cond 11 Try.f11 rfl rfl rfl rfl rfl rfl rfl ⟨rfl, rfl, rfl, rfl, rfl⟩ rfl rfl rfl rfl rfl (by kernel_rfl) Try.func11 (by kernel_rfl)
    (of_decide_eq_true (by kernel_rfl)) (by unfold Func.isWrapper; first | (rw [if_pos (by decide +kernel)]; kernel_rfl) | (rw [if_neg (by decide +kernel)]; exact ⟨rfl, rfl⟩))
    (fun os started H enc _ F => lifted os started H enc F)
end Go.Proofs.Ytgphapkpoamcgaa.formatMatchesReference
