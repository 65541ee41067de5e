/- E19: joined from D11 W19. -/
import Derived.Test.YtbdoblgofddhdaaG6
import Derived.Test.YtbdoblgofddhdaaG5
import Derived.Test.YtbdoblgofddhdaaM10
import Derived.Test.YtbdoblgofddhdaaC1
/- What law 19's arguments are bounded by. -/
namespace Go.Proofs.Ytbdoblgofddhdaa
open Go Go.Ab
theorem len_bkL : ∀ xs : List PV, (∀ x ∈ xs, 1 ≤ x.bk) → xs.length ≤ PV.bkL xs
  | [], _ => Nat.zero_le _
  | x :: xs, h => by
    have h1 := h x (by simp)
    have h2 := len_bkL xs fun y hy => h y (by simp [hy])
    have e : PV.bkL (x :: xs) = x.bk + PV.bkL xs := rfl
    rw [e, List.length_cons]; omega
theorem sy_len (sy : List Sy) : sy.length ≤ PV.bkL (encSy sy) := by
  have := len_bkL (encSy sy) fun x hx => by
    unfold encSy at hx
    obtain ⟨s, _, rfl⟩ := List.mem_map.1 hx
    have e : PV.bk s.enc = 1 + (1 + (1 + (1 + (PV.bk (.lit (.string s.nm)) + (PV.bk s.pb + 0))))) := rfl
    omega
  rwa [encSy_len] at this
theorem dc_len (ds : List Dc) : ds.length ≤ PV.bkL (encDc ds) := by
  have := len_bkL (encDc ds) fun x hx => by
    unfold encDc at hx
    obtain ⟨d, _, rfl⟩ := List.mem_map.1 hx
    have e : PV.bk d.enc = PV.bkL (encI d.ps) + 1 + (1 + (1 + (PV.bkL (encL d.t.args) + 1 + (1 + (PV.bkL (encTb d.bs) + 1 + (PV.bk d.ms + 0)))))) := rfl
    omega
  rwa [encDc_len] at this
theorem law9_bounds {sy : List Sy} {r1 r2 az : PV} {ds : List Dc} {t : Ty} (h : PV.bkL [.agg [.list 6 (encSy sy), r1, r2], .list 7 (encDc ds), az, t.enc] ≤ 1048576) :
    sy.length ≤ 1048576 ∧ ds.length ≤ 1048576 ∧ (∀ d ∈ ds, nds d.t ≤ 1048576) ∧ nds t ≤ 1048576 := by
  have e : PV.bkL [.agg [.list 6 (encSy sy), r1, r2], .list 7 (encDc ds), az, t.enc] = (PV.bkL (encSy sy) + 1 + (PV.bk r1 + (PV.bk r2 + 0))) + ((PV.bkL (encDc ds) + 1) + (PV.bk az + (PV.bk t.enc + 0))) := rfl
  rw [e] at h
  have h1 := sy_len sy
  have h2 := dc_len ds
  have h3 := nds_bk t
  refine ⟨by omega, by omega, fun d hd => ?_, by omega⟩
  have := dc_nds hd
  omega
end Go.Proofs.Ytbdoblgofddhdaa
/- NormalizeMatchesReference: for all resolutions, declarations, assumptions and types the law returns true. Condition: what comes in is of bulk at most 1048576. -/
set_option maxRecDepth 100000
namespace Go.Proofs.Ytbdoblgofddhdaa.normalizeMatchesReference
open Go Go.ChangeShapes Go.WideShapes Go.ChangeAt Go.RowKit Go.Ab
theorem call : ∀ qs, ArgS Try.prog Try.f9.params.toList qs → PV.bkL qs ≤ 1048576 → PCall Try.prog 9 qs (.lit (.bool true)) := by
  intro qs h hb
  rw [Try.params9] at h
  obtain ⟨n1, c1, q1, h1, rfl, n2, c2, q2, h2, rfl, n3, c3, q3, h3, rfl, n4, c4, q4, h4, rfl, rfl⟩ := h
  obtain ⟨sy, r1, r2, e1⟩ := resn_of _ _ h1
  obtain ⟨ds, e2⟩ := dcs_of _ _ h2
  obtain ⟨az, e3⟩ := tbs_of _ _ h3
  obtain ⟨t, e4⟩ := ty_of _ _ h4
  rw [e1, e2, e3, e4] at hb ⊢
  exact law9_ok ⟨sy, r1, r2, ds, az⟩ t (law9_bounds hb).1 (law9_bounds hb).2.1 (law9_bounds hb).2.2.1 (law9_bounds hb).2.2.2
theorem lifted (os : Os) (started : os.Started) (H : Type) (enc : TypeId × Value → H) (F : Stop.Interp) :
    ReturnsInHanded {} Try.checked os 9 .any ((Rows.OpenSpec.upto Rows.normalizeMatchesReferenceSpec).pre6 enc Try.prog Try.f9 Rows.normalizeMatchesReferenceUptoRow.domain false) (((Rows.OpenSpec.upto Rows.normalizeMatchesReferenceSpec).at F).post enc Try.prog Try.f9 false true false false) := by
  refine returnsInHanded_of_cond (C := Try.checked) (s := Rows.OpenSpec.upto Rows.normalizeMatchesReferenceSpec) (k := Rows.uptoSmall) rfl own_ok started (by kernel_rfl) Try.func9
    (OpenSpec.witness (enc := enc) (C := Try.checked) (s := Rows.OpenSpec.upto Rows.normalizeMatchesReferenceSpec) (k := Rows.uptoSmall) rfl false ⟨#[], #[.agg #[.slice none 0 0, .slice none 0 0, .slice none 0 0], .slice none 0 0, .slice none 0 0, .agg #[.int .i64 0, .int .i64 0, .slice none 0 0]], []⟩ 8 (by kernel_rfl) (by kernel_rfl) (by kernel_rfl)
      (x := ([.agg [.nil, .nil, .nil], .nil, .nil, .agg [.lit (.int .i64 0), .lit (.int .i64 0), .nil]], [], [])) (by kernel_rfl) rfl (by kernel_rfl)) ?_
  intro W base args ds gs before hval hW _ hk _
  exact law_contract (S := [3, 4, 9, 22, 23, 24, 26, 38, 40, 43, 46, 47, 48, 50, 125, 258, 260]) laid_ok (by kernel_rfl) rfl (by kernel_rfl) Try.underlying4 (by kernel_rfl) (by kernel_rfl) (fun ds hd => by
    rw [Try.params9] at hd
    match ds, hd with
    | [d1, d2, d3, d4], _ => rfl) call hval hW hk
theorem hI : (Rows.normalizeMatchesReferenceUptoRow.inPlace == Try.prog.inPlace 9) = true := by unfold Program.inPlace; rw [closure_eq]; kernel_rfl
theorem hU : (Rows.normalizeMatchesReferenceUptoRow.unfollowed == Try.prog.unfollowed 9) = true := by unfold Program.unfollowed; rw [closure_eq]; kernel_rfl
theorem hR : (Rows.normalizeMatchesReferenceUptoRow.recurses == Try.prog.recurses 9) = true := by rw [rec_of 24 24 (by kernel_rfl) (by kernel_rfl) (by kernel_rfl)]; rfl
theorem hN : (Rows.normalizeMatchesReferenceUptoRow.named == Try.prog.varsNamed 9) = true := by unfold Program.varsNamed; simp only [closure_eq]; kernel_rfl
theorem closed : joinedFacts Try.prog 9 Try.f9 (Rows.OpenSpec.upto Rows.normalizeMatchesReferenceSpec).bare Rows.normalizeMatchesReferenceUptoRow = true := by
  unfold joinedFacts
  exact band (band (band (band (band (band (band (band (band (band (band (band (band (band (band (band (band (band (band (band (band (band (band (band (band (band (band (band (band (band (band (by kernel_rfl) laid_ok) maps_ok) (by kernel_rfl)) (by kernel_rfl)) (by kernel_rfl)) stops_ok) (by kernel_rfl)) knobs_ok) hI) hU) hR) hN) (by kernel_rfl)) (by kernel_rfl)) (by kernel_rfl)) (by kernel_rfl)) (by kernel_rfl)) (by kernel_rfl)) (by kernel_rfl)) (by kernel_rfl)) (by kernel_rfl)) plain_ok) (by kernel_rfl)) heard_ok) enter_ok) (by rw [lifts_ok]; rfl)) (by rw [make_ok]; rfl)) (by kernel_rfl)) (by kernel_rfl)) (by kernel_rfl)) (by kernel_rfl)
theorem proved : Rows.NormalizeMatchesReferenceUptoSaid :=
  OpenClaim.holds_of_cond 9 Try.f9 rfl rfl rfl rfl rfl rfl rfl ⟨rfl, rfl, rfl, rfl, rfl⟩ rfl rfl rfl rfl rfl (by kernel_rfl) Try.func9 closed
    (of_decide_eq_true (by kernel_rfl)) (by unfold Func.isWrapper; first | (rw [if_pos (by decide +kernel)]; kernel_rfl) | (rw [if_neg (by decide +kernel)]; exact ⟨rfl, rfl⟩))
    (fun os started H enc _ F => lifted os started H enc F)
end Go.Proofs.Ytbdoblgofddhdaa.normalizeMatchesReference
