/- E1: joined from W11. -/
import Derived.Test.YtgphapkpoamcgaaB5
import Derived.Test.YtgphapkpoamcgaaC2
import Derived.Test.YtgphapkpoamcgaaC1
/- GreentreeReference: for all arenas, syntax trees and indices the law returns true. Condition: what comes in is of bulk at most 1048576. -/
set_option maxRecDepth 100000
namespace Go.Proofs.Ytgphapkpoamcgaa.greentreeReference
open Go Go.ChangeShapes Go.WideShapes Go.ChangeAt Go.RowKit Go.Ab
theorem call : ∀ qs, ArgS Try.prog Try.f12.params.toList qs → PV.bkL qs ≤ 1048576 → PCall Try.prog 12 qs (.lit (.bool true)) := by
  intro qs h hb
  rw [Try.params12] at h
  obtain ⟨n1, c1, q1, h1, rfl, n2, c2, q2, h2, rfl, n3, c3, q3, h3, rfl, rfl⟩ := h
  obtain ⟨ns, e1⟩ := ar_of _ _ h1
  obtain ⟨t, e2⟩ := st_of _ _ h2
  obtain ⟨i, e3⟩ := int1_of _ _ h3
  rw [e1, e2, e3] at hb ⊢
  exact law12_ok ns t i (by have := sz_bk t; simp only [PV.bkL] at hb; omega)
theorem lifted (os : Os) (started : os.Started) (H : Type) (enc : TypeId × Value → H) (F : Stop.Interp) :
    ReturnsInHanded {} Try.checked os 12 .any ((Rows.OpenSpec.upto Rows.greentreeReferenceSpec).pre6 enc Try.prog Try.f12 Rows.greentreeReferenceUptoRow.domain false) (((Rows.OpenSpec.upto Rows.greentreeReferenceSpec).at F).post enc Try.prog Try.f12 false true false false) := by
  refine returnsInHanded_of_cond (C := Try.checked) (s := Rows.OpenSpec.upto Rows.greentreeReferenceSpec) (k := Rows.uptoSmall) rfl own_ok started (by kernel_rfl) Try.func12
    (OpenSpec.witness (enc := enc) (C := Try.checked) (s := Rows.OpenSpec.upto Rows.greentreeReferenceSpec) (k := Rows.uptoSmall) rfl false ⟨#[], #[.agg #[.slice none 0 0], .agg #[.int .i64 0, .string ⟨#[]⟩, .slice none 0 0], .int .i64 0], []⟩ 8 (by kernel_rfl) (by kernel_rfl) (by kernel_rfl)
      (x := ([.agg [.nil], .agg [.lit (.int .i64 0), .lit (.string []), .nil], .lit (.int .i64 0)], [], [])) (by kernel_rfl) rfl (by kernel_rfl)) ?_
  intro W base args ds gs before hval hW _ hk _
  exact law_contract (S := [3, 9, 25, 73, 75, 76, 78, 122]) laid_ok (by kernel_rfl) rfl (by kernel_rfl) Try.underlying4 (by kernel_rfl) (by kernel_rfl) (fun ds hd => by
    rw [Try.params12] at hd
    match ds, hd with
    | [d1, d2, d3], _ => rfl) call hval hW hk
theorem hI : (Rows.greentreeReferenceUptoRow.inPlace == Try.prog.inPlace 12) = true := by unfold Program.inPlace; rw [closure_eq]; kernel_rfl
theorem hU : (Rows.greentreeReferenceUptoRow.unfollowed == Try.prog.unfollowed 12) = true := by unfold Program.unfollowed; rw [closure_eq]; kernel_rfl
theorem hR : (Rows.greentreeReferenceUptoRow.recurses == Try.prog.recurses 12) = true := by rw [rec_of 48 48 (by kernel_rfl) (by kernel_rfl) (by kernel_rfl)]; rfl
theorem hN : (Rows.greentreeReferenceUptoRow.named == Try.prog.varsNamed 12) = true := by unfold Program.varsNamed; simp only [closure_eq]; kernel_rfl
theorem closed : joinedFacts Try.prog 12 Try.f12 (Rows.OpenSpec.upto Rows.greentreeReferenceSpec).bare Rows.greentreeReferenceUptoRow = true := by
  unfold joinedFacts
  exact band (band (band (band (band (band (band (band (band (band (band (band (band (band (band (band (band (band (band (band (band (band (band (band (band (band (band (band (band (band (band (by kernel_rfl) laid_ok) maps_ok) (by kernel_rfl)) (by kernel_rfl)) (by kernel_rfl)) stops_ok) (by kernel_rfl)) knobs_ok) hI) hU) hR) hN) (by kernel_rfl)) (by kernel_rfl)) (by kernel_rfl)) (by kernel_rfl)) (by kernel_rfl)) (by kernel_rfl)) (by kernel_rfl)) (by kernel_rfl)) (by kernel_rfl)) plain_ok) (by kernel_rfl)) heard_ok) enter_ok) (by rw [lifts_ok]; rfl)) (by rw [make_ok]; rfl)) (by kernel_rfl)) (by kernel_rfl)) (by kernel_rfl)) (by kernel_rfl)
theorem proved : Rows.GreentreeReferenceUptoSaid :=
  OpenClaim.holds_of_cond 12 Try.f12 rfl rfl rfl rfl rfl rfl rfl ⟨rfl, rfl, rfl, rfl, rfl⟩ rfl rfl rfl rfl rfl (by kernel_rfl) Try.func12 closed
    (of_decide_eq_true (by kernel_rfl)) (by unfold Func.isWrapper; first | (rw [if_pos (by decide +kernel)]; kernel_rfl) | (rw [if_neg (by decide +kernel)]; exact ⟨rfl, rfl⟩))
    (fun os started H enc _ F => lifted os started H enc F)
end Go.Proofs.Ytgphapkpoamcgaa.greentreeReference
