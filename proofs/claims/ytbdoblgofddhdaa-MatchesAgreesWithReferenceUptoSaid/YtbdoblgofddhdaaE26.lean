/- E26: joined from W26. -/
import Derived.Test.YtbdoblgofddhdaaQ16
import Derived.Test.YtbdoblgofddhdaaE4
import Derived.Test.YtbdoblgofddhdaaC1
/- MatchesAgreesWithReference: for all lists of patterns and values the law returns true. Condition: what comes in is of bulk at most 1048576. -/
set_option maxRecDepth 100000
namespace Go.Proofs.Ytbdoblgofddhdaa.matchesAgreesWithReference
open Go Go.ChangeShapes Go.WideShapes Go.ChangeAt Go.RowKit Go.Ab
theorem call : ∀ qs, ArgS Try.prog Try.f15.params.toList qs → PV.bkL qs ≤ 1048576 → PCall Try.prog 15 qs (.lit (.bool true)) := by
  intro qs h hb
  rw [Try.params15] at h
  obtain ⟨n1, c1, q1, h1, rfl, n2, c2, q2, h2, rfl, rfl⟩ := h
  obtain ⟨ps, e1⟩ := pats_of _ _ h1
  obtain ⟨vs, e2⟩ := pats_of _ _ h2
  rw [e1, e2] at hb ⊢
  exact law15_ok ps vs
theorem lifted (os : Os) (started : os.Started) (H : Type) (enc : TypeId × Value → H) (F : Stop.Interp) :
    ReturnsInHanded {} Try.checked os 15 .any ((Rows.OpenSpec.upto Rows.matchesAgreesWithReferenceSpec).pre6 enc Try.prog Try.f15 Rows.matchesAgreesWithReferenceUptoRow.domain false) (((Rows.OpenSpec.upto Rows.matchesAgreesWithReferenceSpec).at F).post enc Try.prog Try.f15 false true false false) := by
  refine returnsInHanded_of_cond (C := Try.checked) (s := Rows.OpenSpec.upto Rows.matchesAgreesWithReferenceSpec) (k := Rows.uptoSmall) rfl own_ok started (by kernel_rfl) Try.func15
    (OpenSpec.witness (enc := enc) (C := Try.checked) (s := Rows.OpenSpec.upto Rows.matchesAgreesWithReferenceSpec) (k := Rows.uptoSmall) rfl false ⟨#[], #[.slice none 0 0, .slice none 0 0], []⟩ 8 (by kernel_rfl) (by kernel_rfl) (by kernel_rfl)
      (x := ([.nil, .nil], [], [])) (by kernel_rfl) rfl (by kernel_rfl)) ?_
  intro W base args ds gs before hval hW _ hk _
  exact law_contract (S := [3, 64, 127]) laid_ok (by kernel_rfl) rfl (by kernel_rfl) Try.underlying4 (by kernel_rfl) (by kernel_rfl) (fun ds hd => by
    rw [Try.params15] at hd
    match ds, hd with
    | [d1, d2], _ => rfl) call hval hW hk
theorem hI : (Rows.matchesAgreesWithReferenceUptoRow.inPlace == Try.prog.inPlace 15) = true := by unfold Program.inPlace; rw [closure_eq]; kernel_rfl
theorem hU : (Rows.matchesAgreesWithReferenceUptoRow.unfollowed == Try.prog.unfollowed 15) = true := by unfold Program.unfollowed; rw [closure_eq]; kernel_rfl
theorem hR : (Rows.matchesAgreesWithReferenceUptoRow.recurses == Try.prog.recurses 15) = true := by rw [rec_of 56 121 (by kernel_rfl) (by kernel_rfl) (by kernel_rfl)]; rfl
theorem hN : (Rows.matchesAgreesWithReferenceUptoRow.named == Try.prog.varsNamed 15) = true := by unfold Program.varsNamed; simp only [closure_eq]; kernel_rfl
theorem closed : joinedFacts Try.prog 15 Try.f15 (Rows.OpenSpec.upto Rows.matchesAgreesWithReferenceSpec).bare Rows.matchesAgreesWithReferenceUptoRow = true := by
  unfold joinedFacts
  exact band (band (band (band (band (band (band (band (band (band (band (band (band (band (band (band (band (band (band (band (band (band (band (band (band (band (band (band (band (band (band (by kernel_rfl) laid_ok) maps_ok) (by kernel_rfl)) (by kernel_rfl)) (by kernel_rfl)) stops_ok) (by kernel_rfl)) knobs_ok) hI) hU) hR) hN) (by kernel_rfl)) (by kernel_rfl)) (by kernel_rfl)) (by kernel_rfl)) (by kernel_rfl)) (by kernel_rfl)) (by kernel_rfl)) (by kernel_rfl)) (by kernel_rfl)) plain_ok) (by kernel_rfl)) heard_ok) enter_ok) (by rw [lifts_ok]; rfl)) (by rw [make_ok]; rfl)) (by kernel_rfl)) (by kernel_rfl)) (by kernel_rfl)) (by kernel_rfl)
theorem proved : Rows.MatchesAgreesWithReferenceUptoSaid :=
  OpenClaim.holds_of_cond 15 Try.f15 rfl rfl rfl rfl rfl rfl rfl ⟨rfl, rfl, rfl, rfl, rfl⟩ rfl rfl rfl rfl rfl (by kernel_rfl) Try.func15 closed
    (of_decide_eq_true (by kernel_rfl)) (by unfold Func.isWrapper; first | (rw [if_pos (by decide +kernel)]; kernel_rfl) | (rw [if_neg (by decide +kernel)]; exact ⟨rfl, rfl⟩))
    (fun os started H enc _ F => lifted os started H enc F)
end Go.Proofs.Ytbdoblgofddhdaa.matchesAgreesWithReference
