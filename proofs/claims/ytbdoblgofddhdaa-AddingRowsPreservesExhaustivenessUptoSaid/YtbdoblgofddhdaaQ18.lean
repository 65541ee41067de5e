/- Q18: joined from Q18. -/
import Derived.Test.YtbdoblgofddhdaaQ17
/- Exhaustiveness: what Missing and Redundant say of the values; the laws on rows added, removed, turned round. -/
set_option maxRecDepth 10000
set_option linter.unusedSimpArgs false
set_option linter.unusedVariables false
namespace Go.Proofs.Ytbdoblgofddhdaa
open Go Go.Ab
theorem valRows_of {ds : List Dm} {cols : List Int} : ∀ {rows : List (List Ty)}, (∀ row ∈ rows, row.length = cols.length ∧ pctL row 1 ≤ 21 ∧ confL ds row cols = true) → valRows ds cols rows = 0
  | [], _ => rfl
  | row :: rows, h => by
    obtain ⟨h1, h2, h3⟩ := h row (by simp)
    have e1 : (row.length == cols.length) = true := by simp [h1]
    have e2 : decide ((pctL row 1 : Int) > 21) = false := by simp; omega
    simp only [valRows, e1, e2, h3, Bool.not_true, Bool.false_eq_true, if_false, if_true]
    exact valRows_of fun r hr => h r (by simp [hr])
theorem val_mono {ds : List Dm} {cols : List Int} {rows rows' : List (List Ty)} (h : valR ds cols rows = 0) (hl : rows'.length ≤ 12) (hr : ∀ row ∈ rows', row.length = cols.length ∧ pctL row 1 ≤ 21 ∧ confL ds row cols = true) : valR ds cols rows' = 0 := by
  obtain ⟨_, _, _, _, _, _, h12, _⟩ := valR_spec h
  unfold valR at h ⊢
  rw [show decide ((rows'.length : Int) > 12) = false by simp; omega]
  rw [show decide ((rows.length : Int) > 12) = false by simp; omega] at h
  generalize hT : tooD ds (if (if decide ((ds.length : Int) > 20) then true else decide ((cols.length : Int) > 6)) then true else false) = t at h ⊢
  generalize hU : (if ds.any (fun d => !vvD ds d) then true else cols.any (fun c => !vdom ds c)) = u at h ⊢
  cases t with
  | true => simp at h
  | false =>
    cases u with
    | true => simp at h
    | false =>
      simp only [Bool.false_eq_true, if_false]
      exact valRows_of hr
theorem val_rows {ds : List Dm} {cols : List Int} {rows : List (List Ty)} (h : valR ds cols rows = 0) : ∀ row ∈ rows, row.length = cols.length ∧ pctL row 1 ≤ 21 ∧ confL ds row cols = true := by
  obtain ⟨_, _, _, h1, _, _, _, h2⟩ := valR_spec h
  exact fun row hr => ⟨(h2 row hr).1, (h2 row hr).2, h1 row hr⟩
theorem val_sub {ds : List Dm} {cols : List Int} {rows rows' : List (List Ty)} (h : valR ds cols rows = 0) (hl : rows'.length ≤ rows.length) (hr : ∀ row ∈ rows', row ∈ rows) : valR ds cols rows' = 0 := by
  obtain ⟨_, _, _, _, _, _, h12, _⟩ := valR_spec h
  exact val_mono h (by omega) fun row hm => val_rows h row (hr row hm)
/-- no row matches the values -/
def unm (rows : List (List Ty)) (vs : List Ty) : Prop := ∀ row ∈ rows, mtL row vs = false
theorem miss_sem {ds : List Dm} {cols : List Int} {rows : List (List Ty)} (h : valR ds cols rows = 0) (hI : Inh ds) : (missR ds cols rows).isSome = true ↔ ∃ vs, VTL ds vs cols ∧ unm rows vs := by
  obtain ⟨hD, hF, hcs, hrr, _⟩ := valR_spec h
  unfold missR
  rw [if_pos (by simp [h])]
  constructor
  · intro hs
    obtain ⟨r, hr⟩ := Option.isSome_iff_exists.1 hs
    obtain ⟨h1, h2⟩ := mis_sound hD hF _ cols rows r hcs hrr hr
    obtain ⟨vs, h3, h4⟩ := confL_val hD hF hI r cols hcs h1
    exact ⟨vs, h3, fun row hm => h2 row hm vs h4⟩
  · rintro ⟨vs, h1, h2⟩
    exact mis_complete hD hF _ cols rows vs hcs hrr (by unfold fuel; omega) h1 h2
theorem miss_none {ds : List Dm} {cols : List Int} {rows : List (List Ty)} (h : valR ds cols rows ≠ 0) : missR ds cols rows = none := by
  unfold missR; rw [if_neg (by simp [h])]
/-! ### the order of the rows -/
theorem law24_bad {ds : List Dm} {cols : List Int} {rows : List (List Ty)} (h : valR ds cols rows ≠ 0) : missR ds cols rows = none ∧ missR ds cols rows.reverse = none := by
  refine ⟨miss_none h, miss_none fun h' => h ?_⟩
  exact val_sub h' (by simp) (by simp)
theorem law24_ok {ds : List Dm} {cols : List Int} {rows : List (List Ty)} (h : valR ds cols rows = 0) (hi : inh ds = true) : (missR ds cols rows).isSome = (missR ds cols rows.reverse).isSome := by
  obtain ⟨hD, hF, _⟩ := valR_spec h
  have hI := inh_Inh hD hF hi
  have h' : valR ds cols rows.reverse = 0 := val_sub h (by simp) (by simp)
  rw [Bool.eq_iff_iff, miss_sem h hI, miss_sem h' hI]
  simp [unm]
/-! ### a row more -/
theorem law22_more {ds : List Dm} {cols : List Int} {rows : List (List Ty)} {row : List Ty} (h : valR ds cols (rows ++ [row]) = 0) (hi : inh ds = true) (hm : (missR ds cols (rows ++ [row])).isSome = true) : (missR ds cols rows).isSome = true := by
  obtain ⟨hD, hF, _⟩ := valR_spec h
  have hI := inh_Inh hD hF hi
  have h' : valR ds cols rows = 0 := val_sub h (by simp) (fun r hr => by simp [hr])
  rw [miss_sem h hI] at hm
  rw [miss_sem h' hI]
  obtain ⟨vs, h1, h2⟩ := hm
  exact ⟨vs, h1, fun r hr => h2 r (by simp [hr])⟩
theorem pctL_wild : ∀ (n k : Nat), n + k ≤ 20 → pctL (List.replicate n wT) k = n + k
  | 0, k, _ => by simp [pctL]
  | n + 1, k, h => by
    simp only [List.replicate_succ, pctL]
    rw [if_neg (by simp; omega), show pct wT = 1 from rfl, pctL_wild n (k + 1) (by omega)]
    omega
theorem law22_cover {ds : List Dm} {cols : List Int} {rows : List (List Ty)} {row : List Ty} (h : valR ds cols (rows ++ [row]) = 0) (hl : rows.length ≤ 10) : valR ds cols (List.replicate cols.length wT :: rows) = 0 := by
  obtain ⟨hD, hF, hcs, _, _, h6, _⟩ := valR_spec h
  refine val_mono h (by simp; omega) fun r hr => ?_
  rcases List.mem_cons.1 hr with rfl | hr
  · refine ⟨by simp, ?_, confL_wild hcs⟩
    rw [pctL_wild _ _ (by omega)]; omega
  · exact val_rows h r (by simp [hr])
theorem law22_none {ds : List Dm} {cols : List Int} {rows : List (List Ty)} (h : valR ds cols (List.replicate cols.length wT :: rows) = 0) (hi : inh ds = true) : missR ds cols (List.replicate cols.length wT :: rows) = none := by
  obtain ⟨hD, hF, _⟩ := valR_spec h
  have hI := inh_Inh hD hF hi
  cases hm : missR ds cols (List.replicate cols.length wT :: rows) with
  | none => rfl
  | some r =>
    have : (missR ds cols (List.replicate cols.length wT :: rows)).isSome = true := by rw [hm]; rfl
    rw [miss_sem h hI] at this
    obtain ⟨vs, h1, h2⟩ := this
    have := h2 _ (List.mem_cons_self ..)
    rw [mtL_wild, VTL_len h1] at this
    simp at this
theorem redL_all {ds : List Dm} {cols : List Int} (hD : DsOk ds) (hF : FsOk ds) (hI : Inh ds) (hcs : ∀ c ∈ cols, cOk ds c) (n : Nat) : ∀ (rest pre : List (List Ty)), List.replicate cols.length wT ∈ pre → (∀ r ∈ pre, confL ds r cols = true) → (∀ r ∈ rest, confL ds r cols = true) → (redL (use ds n cols) pre rest).length = rest.length
  | [], pre, _, _, _ => rfl
  | row :: rest, pre, hw, h1, h2 => by
    have hf : use ds n cols pre row = false := by
      cases hu : use ds n cols pre row with
      | false => rfl
      | true =>
        obtain ⟨vs, e1, _, e3⟩ := use_sound hD hF hI n cols pre row hcs h1 (h2 row (by simp)) hu
        have := e3 _ hw
        rw [mtL_wild, VTL_len e1] at this
        simp at this
    simp only [redL, hf, Bool.false_eq_true, if_false, List.length_cons]
    rw [redL_all hD hF hI hcs n rest (pre ++ [row]) (by simp [hw]) (by
      intro r hr
      rcases List.mem_append.1 hr with hr | hr
      · exact h1 r hr
      · rw [List.mem_singleton.1 hr]; exact h2 row (by simp)) (fun r hr => h2 r (by simp [hr]))]
theorem law22_red {ds : List Dm} {cols : List Int} {rows : List (List Ty)} (h : valR ds cols (List.replicate cols.length wT :: rows) = 0) (hi : inh ds = true) : rows.length ≤ (redR ds cols (List.replicate cols.length wT :: rows)).length := by
  obtain ⟨hD, hF, hcs, hrr, _⟩ := valR_spec h
  have hI := inh_Inh hD hF hi
  unfold redR
  rw [if_pos (by simp [h])]
  simp only [redL]
  have := redL_all hD hF hI hcs (fuel cols (List.replicate cols.length wT :: rows)) rows [List.replicate cols.length wT] (by simp) (fun r hr => hrr r (by rw [List.mem_singleton.1 hr]; simp)) (fun r hr => hrr r (by simp [hr]))
  split <;> simp only [List.nil_append, List.length_cons, this] <;> omega
/-! ### without the redundant rows -/
def hasI (xs : List Int) (i : Int) : Bool := xs.any fun x => i == x
def keepF (red : List Int) : List (List Ty) → Nat → List (List Ty)
  | [], _ => []
  | row :: rest, i => if !(hasI red i) then row :: keepF red rest (i + 1) else keepF red rest (i + 1)
def keepU (f : List (List Ty) → List Ty → Bool) : List (List Ty) → List (List Ty) → List (List Ty)
  | _, [] => []
  | pre, row :: rest => if f pre row then row :: keepU f (pre ++ [row]) rest else keepU f (pre ++ [row]) rest
theorem redL_ge {f : List (List Ty) → List Ty → Bool} : ∀ {rest pre : List (List Ty)} {i : Int}, i ∈ redL f pre rest → (pre.length : Int) ≤ i
  | [], pre, i, h => by simp [redL] at h
  | row :: rest, pre, i, h => by
    simp only [redL] at h
    split at h
    · have := redL_ge h; simp at this; omega
    · rcases List.mem_cons.1 h with rfl | h
      · exact Int.le_refl _
      · have := redL_ge h; simp at this; omega
theorem hasI_iff {xs : List Int} {i : Int} : hasI xs i = true ↔ i ∈ xs := by simp [hasI]
theorem keep_eq {f : List (List Ty) → List Ty → Bool} {red : List Int} : ∀ (rest pre : List (List Ty)), (∀ i : Int, (pre.length : Int) ≤ i → (i ∈ red ↔ i ∈ redL f pre rest)) → keepF red rest pre.length = keepU f pre rest
  | [], pre, _ => rfl
  | row :: rest, pre, h => by
    have ih := keep_eq (f := f) (red := red) rest (pre ++ [row]) ?_
    · simp only [List.length_append, List.length_cons, List.length_nil, Nat.zero_add] at ih
      simp only [keepF, keepU, ih]
      have h0 := h pre.length (Int.le_refl _)
      cases hf : f pre row with
      | true =>
        have : hasI red (pre.length : Int) = false := by
          cases hh : hasI red (pre.length : Int) with
          | false => rfl
          | true =>
            rw [hasI_iff, h0] at hh
            simp only [redL, hf, if_true] at hh
            have := redL_ge hh
            simp at this; omega
        simp [this]
      | false =>
        have : hasI red (pre.length : Int) = true := by
          rw [hasI_iff, h0]
          simp [redL, hf]
        simp [this]
    · intro i hi
      simp at hi
      rw [h i (by omega)]
      simp only [redL]
      split
      · rfl
      · simp only [List.mem_cons]
        constructor
        · rintro (h | h)
          · omega
          · exact h
        · exact .inr
theorem keepU_sub {f : List (List Ty) → List Ty → Bool} : ∀ {rest pre : List (List Ty)} {r : List Ty}, r ∈ keepU f pre rest → r ∈ rest
  | [], pre, r, h => by simp [keepU] at h
  | row :: rest, pre, r, h => by
    simp only [keepU] at h
    split at h
    · rcases List.mem_cons.1 h with rfl | h
      · simp
      · simp [keepU_sub h]
    · simp [keepU_sub h]
theorem keepU_len {f : List (List Ty) → List Ty → Bool} : ∀ (rest pre : List (List Ty)), (keepU f pre rest).length ≤ rest.length
  | [], pre => by simp [keepU]
  | row :: rest, pre => by
    have := keepU_len (f := f) rest (pre ++ [row])
    simp only [keepU]
    split <;> simp <;> omega
theorem keepU_cn {f : List (List Ty) → List Ty → Bool} : ∀ (rest pre : List (List Ty)), cnR (keepU f pre rest) ≤ cnR rest
  | [], pre => by simp [keepU]
  | row :: rest, pre => by
    have := keepU_cn (f := f) rest (pre ++ [row])
    simp only [keepU]
    split <;> simp only [cnR_cons] <;> omega
theorem keep_match {ds : List Dm} {cols : List Int} {rows : List (List Ty)} (hD : DsOk ds) (hF : FsOk ds) (hcs : ∀ c ∈ cols, cOk ds c) (hrr : ∀ r ∈ rows, confL ds r cols = true) {vs : List Ty} (hv : VTL ds vs cols) :
    ∀ (rest pre : List (List Ty)), pre ++ rest = rows → unm pre vs → unm (keepU (use ds (fuel cols rows) cols) pre rest) vs → unm rest vs
  | [], pre, _, _, _ => by intro r hr; cases hr
  | row :: rest, pre, hp, h1, h2 => by
    have hcn : cnR rows = cnR pre + (cnL row + cnR rest) := by rw [← hp, cnR_app, cnR_cons]
    simp only [keepU] at h2
    cases hm : mtL row vs with
    | true =>
      have hu := use_complete hD hF (fuel cols rows) cols pre row vs hcs (fun r hr => hrr r (by rw [← hp]; simp [hr])) (hrr row (by rw [← hp]; simp)) (by unfold fuel; omega) hv hm h1
      rw [if_pos hu] at h2
      have := h2 row (by simp)
      rw [hm] at this; cases this
    | false =>
      have ih := keep_match hD hF hcs hrr hv rest (pre ++ [row]) (by simp [hp]) (by
        intro r hr
        rcases List.mem_append.1 hr with hr | hr
        · exact h1 r hr
        · rw [List.mem_singleton.1 hr]; exact hm) (by
        intro r hr
        refine h2 r ?_
        split
        · simp [hr]
        · exact hr)
      intro r hr
      rcases List.mem_cons.1 hr with rfl | hr
      · exact hm
      · exact ih r hr
theorem keep_red {ds : List Dm} {cols : List Int} {rows kept : List (List Ty)} (hD : DsOk ds) (hF : FsOk ds) (hI : Inh ds) (hcs : ∀ c ∈ cols, cOk ds c) (hrr : ∀ r ∈ rows, confL ds r cols = true) (hk : ∀ r ∈ kept, r ∈ rows) :
    ∀ (rest pre preK : List (List Ty)), pre ++ rest = rows → (∀ r ∈ preK, r ∈ pre) → preK ++ keepU (use ds (fuel cols rows) cols) pre rest = kept → redL (use ds (fuel cols kept) cols) preK (keepU (use ds (fuel cols rows) cols) pre rest) = []
  | [], pre, preK, _, _, _ => by simp [keepU, redL]
  | row :: rest, pre, preK, hp, hs, he => by
    simp only [keepU] at he ⊢
    cases hf : use ds (fuel cols rows) cols pre row with
    | false =>
      rw [hf] at he
      simp only [Bool.false_eq_true, if_false] at he ⊢
      exact keep_red hD hF hI hcs hrr hk rest (pre ++ [row]) preK (by simp [hp]) (fun r hr => by simp [hs r hr]) he
    | true =>
      rw [hf] at he
      simp only [if_true] at he ⊢
      have hc1 : ∀ r ∈ pre, confL ds r cols = true := fun r hr => hrr r (by rw [← hp]; simp [hr])
      have hc2 : confL ds row cols = true := hrr row (by rw [← hp]; simp)
      obtain ⟨vs, e1, e2, e3⟩ := use_sound hD hF hI _ cols pre row hcs hc1 hc2 hf
      have hcn : cnR kept = cnR preK + (cnL row + cnR (keepU (use ds (fuel cols rows) cols) (pre ++ [row]) rest)) := by rw [← he, cnR_app, cnR_cons]
      have hu := use_complete hD hF (fuel cols kept) cols preK row vs hcs (fun r hr => hc1 r (hs r hr)) hc2 (by unfold fuel; omega) e1 e2 (fun r hr => e3 r (hs r hr))
      simp only [redL, hu, if_true]
      exact keep_red hD hF hI hcs hrr hk rest (pre ++ [row]) (preK ++ [row]) (by simp [hp]) (by
        intro r hr
        rcases List.mem_append.1 hr with hr | hr
        · simp [hs r hr]
        · rw [List.mem_singleton.1 hr]; simp) (by simp [he])
def restR (ds : List Dm) (cols : List Int) (rows : List (List Ty)) : List (List Ty) := keepF (redR ds cols rows) rows 0
theorem rest_eq {ds : List Dm} {cols : List Int} {rows : List (List Ty)} (h : valR ds cols rows = 0) : restR ds cols rows = keepU (use ds (fuel cols rows) cols) [] rows := by
  unfold restR redR
  rw [if_pos (by simp [h])]
  exact keep_eq rows [] fun i _ => Iff.rfl
theorem law23_ok {ds : List Dm} {cols : List Int} {rows : List (List Ty)} (h : valR ds cols rows = 0) (hi : inh ds = true) :
    (missR ds cols rows).isSome = (missR ds cols (restR ds cols rows)).isSome ∧ redR ds cols (restR ds cols rows) = [] := by
  obtain ⟨hD, hF, hcs, hrr, _⟩ := valR_spec h
  have hI := inh_Inh hD hF hi
  rw [rest_eq h]
  have hsub : ∀ r ∈ keepU (use ds (fuel cols rows) cols) [] rows, r ∈ rows := fun r hr => keepU_sub hr
  have h' : valR ds cols (keepU (use ds (fuel cols rows) cols) [] rows) = 0 := val_sub h (keepU_len _ _) hsub
  constructor
  · rw [Bool.eq_iff_iff, miss_sem h hI, miss_sem h' hI]
    constructor
    · rintro ⟨vs, h1, h2⟩; exact ⟨vs, h1, fun r hr => h2 r (hsub r hr)⟩
    · rintro ⟨vs, h1, h2⟩
      exact ⟨vs, h1, keep_match hD hF hcs hrr h1 rows [] rfl (by intro r hr; cases hr) h2⟩
  · unfold redR
    rw [if_pos (by simp [h'])]
    exact keep_red hD hF hI hcs hrr hsub rows [] [] rfl (by simp) rfl
/-! ### what Missing hands back -/
theorem law25_pure {ds : List Dm} {cols : List Int} {rows : List (List Ty)} {r : List Ty} (h : missR ds cols rows = some r) : valR ds cols rows = 0 ∧ r.length = cols.length ∧ ∀ row ∈ rows, ∀ vs, mtL r vs = true → mtL row vs = false := by
  have h0 : valR ds cols rows = 0 := by
    by_cases hv : valR ds cols rows = 0
    · exact hv
    · rw [miss_none hv] at h; cases h
  obtain ⟨hD, hF, hcs, hrr, _⟩ := valR_spec h0
  unfold missR at h
  rw [if_pos (by simp [h0])] at h
  obtain ⟨h1, h2⟩ := mis_sound hD hF _ cols rows r hcs hrr h
  exact ⟨h0, confL_len h1, h2⟩
end Go.Proofs.Ytbdoblgofddhdaa
