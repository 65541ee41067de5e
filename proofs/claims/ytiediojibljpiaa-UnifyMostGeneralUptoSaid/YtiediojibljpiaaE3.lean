/- E3: joined from W33. -/
import Derived.Test.YtiediojibljpiaaW5
import Derived.Test.YtiediojibljpiaaC2
import Derived.Test.YtiediojibljpiaaC1
/- UnifyMostGeneral: for all equations and every other substitution the law returns true. Condition: what comes in is of bulk at most 1048576. -/
set_option maxRecDepth 100000
namespace Go.Proofs.Ytiediojibljpiaa.unifyMostGeneral
open Go Go.ChangeShapes Go.WideShapes Go.ChangeAt Go.RowKit Go.Ab
theorem call : ∀ qs, ArgS Try.prog Try.f7.params.toList qs → PV.bkL qs ≤ 1048576 → PCall Try.prog 7 qs (.lit (.bool true)) := by
  intro qs h hb
  rw [Try.params7] at h
  obtain ⟨n1, c1, q1, h1, rfl, n2, c2, q2, h2, rfl, rfl⟩ := h
  obtain ⟨es, e1⟩ := eqs_of _ _ h1
  obtain ⟨other, e2⟩ := bds_of _ _ h2
  rw [e1, e2] at hb ⊢
  exact law33_ok es other (Nat.le_trans (eqs_len hb) (by decide))
theorem lifted (os : Os) (started : os.Started) (H : Type) (enc : TypeId × Value → H) (F : Stop.Interp) :
    ReturnsInHanded {} Try.checked os 7 .any ((Rows.OpenSpec.upto Rows.unifyMostGeneralSpec).pre6 enc Try.prog Try.f7 Rows.unifyMostGeneralUptoRow.domain false) (((Rows.OpenSpec.upto Rows.unifyMostGeneralSpec).at F).post enc Try.prog Try.f7 false true false false) := by
  refine returnsInHanded_of_cond (C := Try.checked) (s := Rows.OpenSpec.upto Rows.unifyMostGeneralSpec) (k := Rows.uptoSmall) rfl own_ok started (by kernel_rfl) Try.func7
    (OpenSpec.witness (enc := enc) (C := Try.checked) (s := Rows.OpenSpec.upto Rows.unifyMostGeneralSpec) (k := Rows.uptoSmall) rfl false ⟨#[], #[.slice none 0 0, .slice none 0 0], []⟩ 8 (by kernel_rfl) (by kernel_rfl) (by kernel_rfl)
      (x := ([.nil, .nil], [], [])) (by kernel_rfl) rfl (by kernel_rfl)) ?_
  intro W base args ds gs before hval hW _ hk _
  exact law_contract (S := [3, 22, 24, 27, 29, 31, 42]) laid_ok (by kernel_rfl) rfl (by kernel_rfl) Try.underlying4 (by kernel_rfl) (by kernel_rfl) (fun ds hd => by
    rw [Try.params7] at hd
    match ds, hd with
    | [d1, d2], _ => rfl) call hval hW hk
theorem hI : (Rows.unifyMostGeneralUptoRow.inPlace == Try.prog.inPlace 7) = true := by unfold Program.inPlace; rw [closure_eq]; kernel_rfl
theorem hU : (Rows.unifyMostGeneralUptoRow.unfollowed == Try.prog.unfollowed 7) = true := by unfold Program.unfollowed; rw [closure_eq]; kernel_rfl
theorem hR : (Rows.unifyMostGeneralUptoRow.recurses == Try.prog.recurses 7) = true := by rw [rec_of 16 16 (by kernel_rfl) (by kernel_rfl) (by kernel_rfl)]; rfl
theorem hN : (Rows.unifyMostGeneralUptoRow.named == Try.prog.varsNamed 7) = true := by unfold Program.varsNamed; simp only [closure_eq]; kernel_rfl
theorem closed : joinedFacts Try.prog 7 Try.f7 (Rows.OpenSpec.upto Rows.unifyMostGeneralSpec).bare Rows.unifyMostGeneralUptoRow = true := by
  unfold joinedFacts
  exact band (band (band (band (band (band (band (band (band (band (band (band (band (band (band (band (band (band (band (band (band (band (band (band (band (band (band (band (band (band (band (by kernel_rfl) laid_ok) maps_ok) (by kernel_rfl)) (by kernel_rfl)) (by kernel_rfl)) stops_ok) (by kernel_rfl)) knobs_ok) hI) hU) hR) hN) (by kernel_rfl)) (by kernel_rfl)) (by kernel_rfl)) (by kernel_rfl)) (by kernel_rfl)) (by kernel_rfl)) (by kernel_rfl)) (by kernel_rfl)) (by kernel_rfl)) plain_ok) (by kernel_rfl)) heard_ok) enter_ok) (by rw [lifts_ok]; rfl)) (by rw [make_ok]; rfl)) (by kernel_rfl)) (by kernel_rfl)) (by kernel_rfl)) (by kernel_rfl)
theorem proved : Rows.UnifyMostGeneralUptoSaid :=
  OpenClaim.holds_of_cond 7 Try.f7 rfl rfl rfl rfl rfl rfl rfl ⟨rfl, rfl, rfl, rfl, rfl⟩ rfl rfl rfl rfl rfl (by kernel_rfl) Try.func7 closed
    (of_decide_eq_true (by kernel_rfl)) (by unfold Func.isWrapper; first | (rw [if_pos (by decide +kernel)]; kernel_rfl) | (rw [if_neg (by decide +kernel)]; exact ⟨rfl, rfl⟩))
    (fun os started H enc _ F => lifted os started H enc F)
end Go.Proofs.Ytiediojibljpiaa.unifyMostGeneral
