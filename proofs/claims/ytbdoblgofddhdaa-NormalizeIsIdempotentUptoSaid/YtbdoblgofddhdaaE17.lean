/- E17: joined from W17. -/
import Derived.Test.YtbdoblgofddhdaaN6
import Derived.Test.YtbdoblgofddhdaaE6
import Derived.Test.YtbdoblgofddhdaaC1
/- NormalizeIsIdempotent: for all resolutions, declarations, assumptions and types the law returns true. Condition: what comes in is of bulk at most 1048576. -/
set_option maxRecDepth 100000
namespace Go.Proofs.Ytbdoblgofddhdaa.normalizeIsIdempotent
open Go Go.ChangeShapes Go.WideShapes Go.ChangeAt Go.RowKit Go.Ab
theorem call : ∀ qs, ArgS Try.prog Try.f7.params.toList qs → PV.bkL qs ≤ 1048576 → PCall Try.prog 7 qs (.lit (.bool true)) := by
  intro qs h hb
  rw [Try.params7] at h
  obtain ⟨n1, c1, q1, h1, rfl, n2, c2, q2, h2, rfl, n3, c3, q3, h3, rfl, n4, c4, q4, h4, rfl, rfl⟩ := h
  obtain ⟨sy, r1, r2, e1⟩ := resn_of _ _ h1
  obtain ⟨ds, e2⟩ := dcs_of _ _ h2
  obtain ⟨az, e3⟩ := tbs_of _ _ h3
  obtain ⟨t, e4⟩ := ty_of _ _ h4
  rw [e1, e2, e3, e4] at hb ⊢
  exact law7_ok ⟨sy, r1, r2, ds, az⟩ t
theorem lifted (os : Os) (started : os.Started) (H : Type) (enc : TypeId × Value → H) (F : Stop.Interp) :
    ReturnsInHanded {} Try.checked os 7 .any ((Rows.OpenSpec.upto Rows.normalizeIsIdempotentSpec).pre6 enc Try.prog Try.f7 Rows.normalizeIsIdempotentUptoRow.domain false) (((Rows.OpenSpec.upto Rows.normalizeIsIdempotentSpec).at F).post enc Try.prog Try.f7 false true false false) := by
  refine returnsInHanded_of_cond (C := Try.checked) (s := Rows.OpenSpec.upto Rows.normalizeIsIdempotentSpec) (k := Rows.uptoSmall) rfl own_ok started (by kernel_rfl) Try.func7
    (OpenSpec.witness (enc := enc) (C := Try.checked) (s := Rows.OpenSpec.upto Rows.normalizeIsIdempotentSpec) (k := Rows.uptoSmall) rfl false ⟨#[], #[.agg #[.slice none 0 0, .slice none 0 0, .slice none 0 0], .slice none 0 0, .slice none 0 0, .agg #[.int .i64 0, .int .i64 0, .slice none 0 0]], []⟩ 8 (by kernel_rfl) (by kernel_rfl) (by kernel_rfl)
      (x := ([.agg [.nil, .nil, .nil], .nil, .nil, .agg [.lit (.int .i64 0), .lit (.int .i64 0), .nil]], [], [])) (by kernel_rfl) rfl (by kernel_rfl)) ?_
  intro W base args ds gs before hval hW _ hk _
  exact law_contract (S := [3, 4, 9, 22, 23, 24, 26, 38, 40, 43, 46, 47, 48, 50, 125, 258, 260]) laid_ok (by kernel_rfl) rfl (by kernel_rfl) Try.underlying4 (by kernel_rfl) (by kernel_rfl) (fun ds hd => by
    rw [Try.params7] at hd
    match ds, hd with
    | [d1, d2, d3, d4], _ => rfl) call hval hW hk
theorem hI : (Rows.normalizeIsIdempotentUptoRow.inPlace == Try.prog.inPlace 7) = true := by unfold Program.inPlace; rw [closure_eq]; kernel_rfl
theorem hU : (Rows.normalizeIsIdempotentUptoRow.unfollowed == Try.prog.unfollowed 7) = true := by unfold Program.unfollowed; rw [closure_eq]; kernel_rfl
theorem hR : (Rows.normalizeIsIdempotentUptoRow.recurses == Try.prog.recurses 7) = true := by rw [rec_of 24 24 (by kernel_rfl) (by kernel_rfl) (by kernel_rfl)]; rfl
theorem hN : (Rows.normalizeIsIdempotentUptoRow.named == Try.prog.varsNamed 7) = true := by unfold Program.varsNamed; simp only [closure_eq]; kernel_rfl
theorem closed : joinedFacts Try.prog 7 Try.f7 (Rows.OpenSpec.upto Rows.normalizeIsIdempotentSpec).bare Rows.normalizeIsIdempotentUptoRow = true := by
  unfold joinedFacts
  exact band (band (band (band (band (band (band (band (band (band (band (band (band (band (band (band (band (band (band (band (band (band (band (band (band (band (band (band (band (band (band (by kernel_rfl) laid_ok) maps_ok) (by kernel_rfl)) (by kernel_rfl)) (by kernel_rfl)) stops_ok) (by kernel_rfl)) knobs_ok) hI) hU) hR) hN) (by kernel_rfl)) (by kernel_rfl)) (by kernel_rfl)) (by kernel_rfl)) (by kernel_rfl)) (by kernel_rfl)) (by kernel_rfl)) (by kernel_rfl)) (by kernel_rfl)) plain_ok) (by kernel_rfl)) heard_ok) enter_ok) (by rw [lifts_ok]; rfl)) (by rw [make_ok]; rfl)) (by kernel_rfl)) (by kernel_rfl)) (by kernel_rfl)) (by kernel_rfl)
theorem proved : Rows.NormalizeIsIdempotentUptoSaid :=
  OpenClaim.holds_of_cond 7 Try.f7 rfl rfl rfl rfl rfl rfl rfl ⟨rfl, rfl, rfl, rfl, rfl⟩ rfl rfl rfl rfl rfl (by kernel_rfl) Try.func7 closed
    (of_decide_eq_true (by kernel_rfl)) (by unfold Func.isWrapper; first | (rw [if_pos (by decide +kernel)]; kernel_rfl) | (rw [if_neg (by decide +kernel)]; exact ⟨rfl, rfl⟩))
    (fun os started H enc _ F => lifted os started H enc F)
end Go.Proofs.Ytbdoblgofddhdaa.normalizeIsIdempotent
