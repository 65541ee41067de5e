/- E5: joined from W30. -/
import Derived.Test.YtiediojibljpiaaVX7
import Derived.Test.YtiediojibljpiaaVC2
import Derived.Test.YtiediojibljpiaaVC1
/- UnifyOrderIndependent: for all equations the law returns true. Condition: what comes in is of bulk at most 1048576. -/
set_option maxRecDepth 100000
namespace Go.Proofs.Ytiediojibljpiaa.unifyOrderIndependent
open Go Go.ChangeShapes Go.WideShapes Go.ChangeAt Go.RowKit Go.Ab
theorem call : ∀ qs, ArgS Try.prog Try.f4.params.toList qs → PV.bkL qs ≤ 1048576 → PCall Try.prog 4 qs (.lit (.bool true)) := by
  intro qs h hb
  rw [Try.params4] at h
  obtain ⟨n1, c1, q1, h1, rfl, rfl⟩ := h
  obtain ⟨es, e1⟩ := eqs_of _ _ h1
  rw [e1] at hb ⊢
  exact f4_ok es (Nat.le_trans (eqs_len hb) (by decide))
theorem lifted (os : Os) (started : os.Started) (H : Type) (enc : TypeId × Value → H) (F : Stop.Interp) :
    ReturnsInHanded {} Try.checked os 4 .any ((Rows.OpenSpec.upto Rows.unifyOrderIndependentSpec).pre6 enc Try.prog Try.f4 Rows.unifyOrderIndependentUptoRow.domain false) (((Rows.OpenSpec.upto Rows.unifyOrderIndependentSpec).at F).post enc Try.prog Try.f4 false true false false) := by
  refine returnsInHanded_of_cond (C := Try.checked) (s := Rows.OpenSpec.upto Rows.unifyOrderIndependentSpec) (k := Rows.uptoSmall) rfl own_ok started (by kernel_rfl) Try.func4
    (OpenSpec.witness (enc := enc) (C := Try.checked) (s := Rows.OpenSpec.upto Rows.unifyOrderIndependentSpec) (k := Rows.uptoSmall) rfl false ⟨#[], #[.slice none 0 0], []⟩ 8 (by kernel_rfl) (by kernel_rfl) (by kernel_rfl)
      (x := ([.nil], [], [])) (by kernel_rfl) rfl (by kernel_rfl)) ?_
  intro W base args ds gs before hval hW _ hk _
  exact law_contract (S := [3, 22, 27, 29, 31]) laid_ok (by kernel_rfl) rfl (by kernel_rfl) Try.underlying4 (by kernel_rfl) (by kernel_rfl) (fun ds hd => by
    rw [Try.params4] at hd
    match ds, hd with
    | [d1], _ => rfl) call hval hW hk
theorem hI : (Rows.unifyOrderIndependentUptoRow.inPlace == Try.prog.inPlace 4) = true := by unfold Program.inPlace; rw [closure_eq]; kernel_rfl
theorem hU : (Rows.unifyOrderIndependentUptoRow.unfollowed == Try.prog.unfollowed 4) = true := by unfold Program.unfollowed; rw [closure_eq]; kernel_rfl
theorem hR : (Rows.unifyOrderIndependentUptoRow.recurses == Try.prog.recurses 4) = true := by rw [rec_of 48 48 (by kernel_rfl) (by kernel_rfl) (by kernel_rfl)]; rfl
theorem hN : (Rows.unifyOrderIndependentUptoRow.named == Try.prog.varsNamed 4) = true := by unfold Program.varsNamed; simp only [closure_eq]; kernel_rfl
theorem closed : joinedFacts Try.prog 4 Try.f4 (Rows.OpenSpec.upto Rows.unifyOrderIndependentSpec).bare Rows.unifyOrderIndependentUptoRow = true := by
  unfold joinedFacts
  exact band (band (band (band (band (band (band (band (band (band (band (band (band (band (band (band (band (band (band (band (band (band (band (band (band (band (band (band (band (band (band (by kernel_rfl) laid_ok) maps_ok) (by kernel_rfl)) (by kernel_rfl)) (by kernel_rfl)) stops_ok) (by kernel_rfl)) knobs_ok) hI) hU) hR) hN) (by kernel_rfl)) (by kernel_rfl)) (by kernel_rfl)) (by kernel_rfl)) (by kernel_rfl)) (by kernel_rfl)) (by kernel_rfl)) (by kernel_rfl)) (by kernel_rfl)) plain_ok) (by kernel_rfl)) heard_ok) enter_ok) (by rw [lifts_ok]; rfl)) (by rw [make_ok]; rfl)) (by kernel_rfl)) (by kernel_rfl)) (by kernel_rfl)) (by kernel_rfl)
theorem proved : Rows.UnifyOrderIndependentUptoSaid :=
  OpenClaim.holds_of_cond 4 Try.f4 rfl rfl rfl rfl rfl rfl rfl ⟨rfl, rfl, rfl, rfl, rfl⟩ rfl rfl rfl rfl rfl (by kernel_rfl) Try.func4 closed
    (of_decide_eq_true (by kernel_rfl)) (by unfold Func.isWrapper; first | (rw [if_pos (by decide +kernel)]; kernel_rfl) | (rw [if_neg (by decide +kernel)]; exact ⟨rfl, rfl⟩))
    (fun os started H enc _ F => lifted os started H enc F)
end Go.Proofs.Ytiediojibljpiaa.unifyOrderIndependent
