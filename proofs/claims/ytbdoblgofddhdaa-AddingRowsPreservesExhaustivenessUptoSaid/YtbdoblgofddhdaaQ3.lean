/- Q3: joined from Q3. -/
import Derived.Test.YtbdoblgofddhdaaQ2
/- Exhaustiveness: completeness; usefulness. -/
set_option maxRecDepth 10000
set_option linter.unusedSimpArgs false
set_option linter.unusedVariables false
namespace Go.Proofs.Ytbdoblgofddhdaa
open Go Go.Ab
theorem cnL_app : ∀ (ps qs : List Ty), cnL (ps ++ qs) = cnL ps + cnL qs
  | [], qs => by simp [cnL]
  | p :: ps, qs => by simp only [List.cons_append, cnL, cnL_app ps qs]; omega
theorem cnL_wild : ∀ n : Nat, cnL (List.replicate n wT) = 0
  | 0 => rfl
  | n + 1 => by rw [List.replicate_succ, cnL, cnL_wild n]; rfl
theorem kd_mk (k id : Int) (a : List Ty) : (Ty.mk k id a).kd = k := rfl
theorem id_mk (k id : Int) (a : List Ty) : (Ty.mk k id a).id = id := rfl
theorem args_mk (k id : Int) (a : List Ty) : (Ty.mk k id a).args = a := rfl
theorem cn_ne0 {p : Ty} (h : p.kd ≠ 0) : cn p = 1 + cnL p.args := by
  cases p; simp only [kd_mk] at h; simp [cn, h, Ty.args]
theorem cnR_cons (r : List Ty) (rows : List (List Ty)) : cnR (r :: rows) = cnL r + cnR rows := by simp [cnR]
theorem cnR_spc (k id : Int) (n : Nat) : ∀ rows : List (List Ty), cnR (spc k id n rows) ≤ cnR rows
  | [] => by simp [spc]
  | [] :: rows => by
    have := cnR_spc k id n rows
    simp only [spc, cnR_cons]; omega
  | (p :: r) :: rows => by
    have ih := cnR_spc k id n rows
    simp only [spc]
    split
    · rw [cnR_cons, cnR_cons, cnL_app, cnL_wild]; simp only [cnL]; omega
    · rename_i h0
      have h0 : p.kd ≠ 0 := by simpa using h0
      have := cn_ne0 h0
      by_cases hc : (if p.kd == k then p.id == id else false) = true
      · rw [if_pos hc, cnR_cons, cnR_cons, cnL_app]; simp only [cnL]; omega
      · rw [if_neg hc, cnR_cons]; omega
theorem cnR_spc_lt {k id : Int} {n : Nat} {p : Ty} {r : List Ty} (h0 : p.kd ≠ 0) (h1 : p.kd = k) (h2 : p.id = id) : ∀ {rows : List (List Ty)}, (p :: r) ∈ rows → cnR (spc k id n rows) < cnR rows
  | [], h => by cases h
  | [] :: rows, h => by
    have := cnR_spc_lt (n := n) h0 h1 h2 (rows := rows) (by simpa using h)
    simp only [spc, cnR_cons]; omega
  | (q :: s) :: rows, h => by
    rcases List.mem_cons.1 h with h | h
    · cases h
      have hc : (if p.kd == k then p.id == id else false) = true := by simp [h1, h2]
      simp only [spc]
      rw [if_neg (by simpa using h0), if_pos hc, cnR_cons, cnR_cons, cnL_app]
      have := cnR_spc k id n rows
      have := cn_ne0 h0
      simp only [cnL]; omega
    · have ih := cnR_spc_lt (n := n) h0 h1 h2 h
      simp only [spc]
      split
      · rw [cnR_cons, cnR_cons, cnL_app, cnL_wild]; simp only [cnL]; omega
      · rename_i h0
        have h0 : q.kd ≠ 0 := by simpa using h0
        have := cn_ne0 h0
        by_cases hc : (if q.kd == k then q.id == id else false) = true
        · rw [if_pos hc, cnR_cons, cnR_cons, cnL_app]; simp only [cnL]; omega
        · rw [if_neg hc, cnR_cons]; omega
/-- a value's fields -/
theorem VT_flds {ds : List Dm} {v u : Ty} {c : Int} {d : Dm} (hd : ds[c.toNat]? = some d) (hv : VT ds v c) (h0 : v.kd ≠ 0) (hk : u.kd = v.kd) (hi : u.id = v.id) : VTL ds v.args (flds d u) := by
  cases hv with
  | any _ _ _ _ => simp [kd_mk] at h0
  | int _ d' n hd' hk' =>
    have : flds d u = [] := by unfold flds; rw [hk]; rfl
    rw [this]; exact .nil
  | bool _ d' n hd' hk' _ =>
    have : flds d u = [] := by unfold flds; rw [hk]; rfl
    rw [this]; exact .nil
  | vr _ d' w az hd' hk' hw ha =>
    rw [hd] at hd'; cases hd'
    have : flds d u = w.fs := by
      unfold flds
      simp only [kd_mk] at hk
      simp only [id_mk] at hi
      rw [hk, hi, hw]; rfl
    rw [this]; exact ha
theorem VT_kind {ds : List Dm} {v : Ty} {c : Int} {d : Dm} (hd : ds[c.toNat]? = some d) (hv : VT ds v c) : v.kd = d.k := by
  cases hv with
  | any _ d' hd' hk => rw [hd] at hd'; cases hd'; exact hk.symm
  | int _ d' n hd' hk' => rw [hd] at hd'; cases hd'; exact hk'.symm
  | bool _ d' n hd' hk' _ => rw [hd] at hd'; cases hd'; exact hk'.symm
  | vr _ d' w az hd' hk' hw ha => rw [hd] at hd'; cases hd'; exact hk'.symm
theorem VTL_app {ds : List Dm} : ∀ {az vs : List Ty} {fs cs : List Int}, VTL ds az fs → VTL ds vs cs → VTL ds (az ++ vs) (fs ++ cs)
  | [], _, [], _, _, h => h
  | _ :: _, _, _ :: _, _, .cons _ _ _ _ h1 h2, h => .cons _ _ _ _ h1 (VTL_app h2 h)
theorem VTL_split {ds : List Dm} : ∀ {fs cs : List Int} {vs : List Ty}, VTL ds vs (fs ++ cs) → ∃ az ws, vs = az ++ ws ∧ VTL ds az fs ∧ VTL ds ws cs ∧ az.length = fs.length
  | [], cs, vs, h => ⟨[], vs, rfl, .nil, h, rfl⟩
  | f :: fs, cs, vs, h => by
    cases h with
    | cons v vs' _ _ h1 h2 =>
      obtain ⟨az, ws, rfl, h3, h4, h5⟩ := VTL_split h2
      exact ⟨v :: az, ws, rfl, .cons _ _ _ _ h1 h3, h4, by simp [h5]⟩
theorem hasId_ex {us : List Ty} {n : Int} (h : hasId us n = true) : ∃ u ∈ us, u.id = n := by
  obtain ⟨u, h1, h2⟩ := List.any_eq_true.1 h
  exact ⟨u, h1, by simpa using h2⟩
/-- a specialized matrix does not match the value's fields -/
theorem spc_un {rows : List (List Ty)} {v : Ty} {vs : List Ty} {k id : Int} {n : Nat} (hk : v.kd = k) (hi : v.id = id) (hn : v.args.length = n) (hl : ∀ p r, (p :: r) ∈ rows → p.kd ≠ 0 → p.id = id → p.args.length = n) (h : ∀ row ∈ rows, mtL row (v :: vs) = false) :
    ∀ r' ∈ spc k id n rows, mtL r' (v.args ++ vs) = false := by
  intro r' hr'
  rcases mem_spc.1 hr' with ⟨p, r, h1, h2, rfl⟩ | ⟨p, r, h1, h2, h3, h4, rfl⟩
  · have := h _ h1
    rw [mtL_cons, mt_kd0 h2, Bool.true_and] at this
    rw [mtL_app (by simp [hn]), this, Bool.and_false]
  · have := h _ h1
    rw [mtL_cons, mt_ne0 h2, h3, h4, hk, hi] at this
    simp only [beq_self_eq_true, if_true] at this
    rw [mtL_app (by rw [hn]; exact hl _ _ h1 h2 h4)]; exact this
theorem row_len {ds : List Dm} (hD : DsOk ds) {rows : List (List Ty)} {c : Int} {cs : List Int} {d : Dm} (hd : ds[c.toNat]? = some d) (hr : ∀ row ∈ rows, confL ds row (c :: cs) = true) {u : Ty} (hk : u.kd = d.k) :
    ∀ p r, (p :: r) ∈ rows → p.kd ≠ 0 → p.id = u.id → p.args.length = (flds d u).length := by
  intro p r h h0 hi
  have := hr _ h
  rw [confL_cons, Bool.and_eq_true] at this
  obtain ⟨g1, g2, _⟩ := flds_ok hD hd this.1 h0
  rw [← g2, flds_same (d := d) (by rw [g1, hk]) hi]
theorem dfl_un {ds : List Dm} (hD : DsOk ds) {rows : List (List Ty)} {c : Int} {cs : List Int} (hr : ∀ row ∈ rows, confL ds row (c :: cs) = true) {v : Ty} {vs : List Ty} (h : ∀ row ∈ rows, mtL row (v :: vs) = false) :
    ∀ r' ∈ dfl rows, mtL r' vs = false := by
  intro r' hr'
  obtain ⟨p, h1, h2⟩ := mem_dfl hD hr hr'
  have := h _ h1
  rw [mtL_cons, mt_kd0 h2, Bool.true_and] at this
  exact this
theorem mis_complete {ds : List Dm} (hD : DsOk ds) (hF : FsOk ds) : ∀ (n : Nat) (cols : List Int) (rows : List (List Ty)) (vs : List Ty), (∀ c ∈ cols, cOk ds c) → (∀ row ∈ rows, confL ds row cols = true) → 5 * cnR rows + cols.length < n →
    VTL ds vs cols → (∀ row ∈ rows, mtL row vs = false) → (mis ds n cols rows).isSome = true
  | 0, cols, rows, vs, _, _, h, _, _ => by omega
  | n + 1, [], rows, vs, _, hr, hm, hv, h => by
    cases hv
    have : rows = [] := by
      cases rows with
      | nil => rfl
      | cons row rows =>
        have h1 := hr row (by simp)
        cases row with
        | nil => have := h [] (by simp); simp [mtL] at this
        | cons p r => simp [confL] at h1
    subst this; rfl
  | n + 1, c :: cs, rows, v :: vs, hcs, hr, hm, .cons _ _ _ _ hv hvs, h => by
    obtain ⟨d, hd⟩ := cOk_get (hcs c (by simp))
    have hcs' : ∀ x ∈ cs, cOk ds x := fun x hx => hcs x (by simp [hx])
    simp only [mis, hd]
    by_cases hu : v.kd ≠ 0 ∧ hasId (ctr rows []) v.id = true
    · obtain ⟨u, hum, hui⟩ := hasId_ex hu.2
      obtain ⟨hcu, hu0, r, hur⟩ := ctr_conf hr hum
      obtain ⟨f1, f2, f3, _⟩ := flds_ok hD hd hcu hu0
      have hkv := VT_kind hd hv
      have hva := VT_flds (u := u) hd hv hu.1 (by rw [f1, hkv]) hui
      have hcols : ∀ x ∈ flds d u ++ cs, cOk ds x := fun x hx => by
        rcases List.mem_append.1 hx with hx | hx
        · exact flds_cOk hF (dom_mem hd) u x hx
        · exact hcs' x hx
      have hlt := cnR_spc_lt (n := (flds d u).length) hu0 rfl rfl hur
      have h4 := flds_le hD (dom_mem hd) u
      have := mis_complete hD hF n (flds d u ++ cs) (spc u.kd u.id (flds d u).length rows) (v.args ++ vs) hcols (spc_conf hD hF hd hr hcu hu0) (by simp only [List.length_append, List.length_cons] at hm ⊢; omega) (VTL_app hva hvs)
        (spc_un (by rw [hkv, f1]) hui.symm (VTL_len hva) (row_len hD hd hr f1) h)
      have hL := misL_some (f := mis ds n) (d := d) (cs := cs) (rows := rows) hum this
      split
      · exact hL
      · split
        · rfl
        · exact hL
    · have hn : v.kd ≠ 0 → hasId (ctr rows []) v.id = false := fun h0 => by
        cases e : hasId (ctr rows []) v.id with
        | false => rfl
        | true => exact absurd ⟨h0, e⟩ hu
      obtain ⟨p, hp⟩ := absn_some hD hd (us := ctr rows []) (fun hk => by
        cases e : ctr rows [] with
        | nil => rfl
        | cons u us =>
          obtain ⟨hcu, hu0, _⟩ := ctr_conf hr (u := u) (by rw [e]; simp)
          have := (flds_ok hD hd hcu hu0).1
          omega) hv hn
      rw [hp]
      have hle := cnR_spc (-1) 0 0 rows
      have := mis_complete hD hF n cs (dfl rows) vs hcs' (dfl_conf hD hr) (by simp only [List.length_cons] at hm; unfold dfl; omega) hvs (dfl_un hD hr h)
      obtain ⟨r, e⟩ := Option.isSome_iff_exists.1 this
      simp only [e]; rfl
/-! ### usefulness -/
def Inh (ds : List Dm) : Prop := ∀ c, cOk ds c → ∃ v, VT ds v c
mutual
theorem conf_val {ds : List Dm} (hD : DsOk ds) (hF : FsOk ds) (hI : Inh ds) : ∀ (p : Ty) (c : Int), cOk ds c → conf ds p c = true → ∃ v, VT ds v c ∧ mt p v = true
  | .mk k id az, c, hc, h => by
    by_cases h0 : k = 0
    · obtain ⟨v, hv⟩ := hI c hc
      exact ⟨v, hv, mt_kd0 h0⟩
    · obtain ⟨d, hd⟩ := cOk_get hc
      obtain ⟨f1, f2, f3, f4, f5⟩ := flds_ok hD hd h h0
      simp only [kd_mk, id_mk, args_mk] at f1 f2 f3 f4 f5
      obtain ⟨d', hd', hcc⟩ := conf_cases h
      rw [hd] at hd'; cases hd'
      have hmt : ∀ bs, mtL az bs = true → mt (.mk k id az) (.mk k id bs) = true := fun bs hb => by
        rw [mt_ne0 (by exact h0)]; simp [kd_mk, id_mk, args_mk, hb]
      rcases hD.kinds d (dom_mem hd) with hk | hk | hk | hk
      · omega
      · obtain ⟨v, hv, he⟩ := f4 hk
        obtain ⟨bs, hb1, hb2⟩ := confL_val hD hF hI az (flds d (.mk k id az)) (flds_cOk hF (dom_mem hd) _) f3
        have := VT.vr (ds := ds) c d v bs hd hk (hD.uniq d (dom_mem hd) v (vfind_mem hv).1) (by rw [← he]; exact hb1)
        rw [(vfind_mem hv).2, show (1 : Int) = k by omega] at this
        exact ⟨_, this, hmt bs hb2⟩
      · have hn := (f5 (by omega)).2
        subst hn
        have := VT.int (ds := ds) c d id hd hk
        rw [show (2 : Int) = k by omega] at this
        exact ⟨_, this, hmt [] rfl⟩
      · have hn := (f5 (by omega)).2
        subst hn
        rcases hcc with ⟨e, _⟩ | ⟨_, _, ⟨e, _⟩ | ⟨e, e2, _⟩ | ⟨_, e, _⟩⟩
        · exact absurd e h0
        · omega
        · have := VT.bool (ds := ds) c d id hd hk e2
          rw [show (3 : Int) = k by omega] at this
          exact ⟨_, this, hmt [] rfl⟩
        · omega
theorem confL_val {ds : List Dm} (hD : DsOk ds) (hF : FsOk ds) (hI : Inh ds) : ∀ (ps : List Ty) (cs : List Int), (∀ c ∈ cs, cOk ds c) → confL ds ps cs = true → ∃ vs, VTL ds vs cs ∧ mtL ps vs = true
  | [], [], _, _ => ⟨[], .nil, rfl⟩
  | [], _ :: _, _, h => by simp [confL] at h
  | _ :: _, [], _, h => by simp [confL] at h
  | p :: ps, c :: cs, hc, h => by
    rw [confL_cons, Bool.and_eq_true] at h
    obtain ⟨v, h1, h2⟩ := conf_val hD hF hI p c (hc c (by simp)) h.1
    obtain ⟨vs, h3, h4⟩ := confL_val hD hF hI ps cs (fun x hx => hc x (by simp [hx])) h.2
    exact ⟨v :: vs, .cons _ _ _ _ h1 h3, by rw [mtL_cons, h2, h4]; rfl⟩
end
theorem useL_spec {f : List Int → List (List Ty) → List Ty → Bool} {d : Dm} {cs : List Int} {rows : List (List Ty)} {r : List Ty} : ∀ {us : List Ty}, useL f d cs rows r us = true ↔
    ∃ q ∈ us, f (flds d q ++ cs) (spc q.kd q.id (flds d q).length rows) (List.replicate (flds d q).length wT ++ r) = true
  | [] => by simp [useL]
  | u :: us => by
    simp only [useL]
    split
    · rename_i h; simp [h]
    · rename_i h; simp [h, useL_spec (us := us)]
/-- a value under a constructor -/
theorem VT_mk {ds : List Dm} (hD : DsOk ds) {p : Ty} {c : Int} {d : Dm} (hd : ds[c.toNat]? = some d) (h : conf ds p c = true) (h0 : p.kd ≠ 0) {az : List Ty} (ha : VTL ds az (flds d p)) : VT ds (.mk p.kd p.id az) c := by
  obtain ⟨f1, f2, f3, f4, f5⟩ := flds_ok hD hd h h0
  obtain ⟨d', hd', hcc⟩ := conf_cases h
  rw [hd] at hd'; cases hd'
  rcases hD.kinds d (dom_mem hd) with hk | hk | hk | hk
  · omega
  · obtain ⟨v, hv, he⟩ := f4 hk
    have := VT.vr (ds := ds) c d v az hd hk (hD.uniq d (dom_mem hd) v (vfind_mem hv).1) (by rw [← he]; exact ha)
    rw [(vfind_mem hv).2, show (1 : Int) = p.kd by omega] at this
    exact this
  · rw [(f5 (by omega)).1] at ha
    cases ha
    have := VT.int (ds := ds) c d p.id hd hk
    rw [show (2 : Int) = p.kd by omega] at this
    exact this
  · rw [(f5 (by omega)).1] at ha
    cases ha
    rcases hcc with ⟨e, _⟩ | ⟨_, _, ⟨e, _⟩ | ⟨e, e2, _⟩ | ⟨_, e, _⟩⟩
    · exact absurd e h0
    · omega
    · have := VT.bool (ds := ds) c d p.id hd hk e2
      rw [show (3 : Int) = p.kd by omega] at this
      exact this
    · omega
/-- the value under a constructor is matched by no row -/
theorem un_spc {ds : List Dm} (hD : DsOk ds) {rows : List (List Ty)} {c : Int} {cs : List Int} {d : Dm} (hd : ds[c.toNat]? = some d) (hr : ∀ row ∈ rows, confL ds row (c :: cs) = true) {p : Ty} (hp : p.kd ≠ 0) {az vs : List Ty} (hl : az.length = (flds d p).length)
    (h : ∀ r' ∈ spc p.kd p.id (flds d p).length rows, mtL r' (az ++ vs) = false) : ∀ row ∈ rows, mtL row (.mk p.kd p.id az :: vs) = false := by
  intro row hrow
  obtain ⟨q, s, rfl, hq, hs⟩ := row_split (hr row hrow)
  rw [mtL_cons]
  by_cases q0 : q.kd = 0
  · have := h _ (mem_spc.2 (.inl ⟨q, s, hrow, q0, rfl⟩))
    rw [mtL_app (by simp [hl]), mtL_wild] at this
    rw [mt_kd0 q0]
    simpa [hl] using this
  · cases hm : mt q (.mk p.kd p.id az) with
    | false => rfl
    | true =>
      obtain ⟨e1, e2, hm⟩ := mt_ne q0 hm
      have := h _ (mem_spc.2 (.inr ⟨q, s, hrow, q0, e1, e2, rfl⟩))
      simp only [args_mk] at hm
      rw [mtL_app (mtL_len hm), hm] at this
      exact this
theorem use_sound {ds : List Dm} (hD : DsOk ds) (hF : FsOk ds) (hI : Inh ds) : ∀ (n : Nat) (cols : List Int) (rows : List (List Ty)) (row : List Ty), (∀ c ∈ cols, cOk ds c) → (∀ r ∈ rows, confL ds r cols = true) → confL ds row cols = true → use ds n cols rows row = true →
    ∃ vs, VTL ds vs cols ∧ mtL row vs = true ∧ ∀ r ∈ rows, mtL r vs = false
  | 0, cols, rows, row, _, _, _, h => by simp [use] at h
  | n + 1, [], rows, row, _, hr, hc, h => by
    simp only [use] at h
    have : rows = [] := by simpa using h
    subst this
    have : row = [] := by
      cases row with
      | nil => rfl
      | cons _ _ => simp [confL] at hc
    subst this
    exact ⟨[], .nil, rfl, fun r h => by cases h⟩
  | n + 1, c :: cs, rows, row, hcs, hr, hrow, h => by
    obtain ⟨p, r, rfl, hp, hr2⟩ := row_split hrow
    have hc := hcs c (by simp)
    have hcs' : ∀ x ∈ cs, cOk ds x := fun x hx => hcs x (by simp [hx])
    obtain ⟨d, hd⟩ := cOk_get hc
    have hcols : ∀ u, ∀ x ∈ flds d u ++ cs, cOk ds x := fun u x hx => by
      rcases List.mem_append.1 hx with hx | hx
      · exact flds_cOk hF (dom_mem hd) u x hx
      · exact hcs' x hx
    simp only [use, hd] at h
    split at h
    · rename_i h0
      have h0 : p.kd ≠ 0 := by simpa using h0
      obtain ⟨f1, f2, f3, _⟩ := flds_ok hD hd hp h0
      obtain ⟨vs, v1, v2, v3⟩ := use_sound hD hF hI n _ _ _ (hcols p) (spc_conf hD hF hd hr hp h0) (by rw [confL_app f2.symm, f3, hr2]; rfl) h
      obtain ⟨az, ws, rfl, a1, a2, a3⟩ := VTL_split v1
      rw [mtL_app (by rw [a3, f2]), Bool.and_eq_true] at v2
      refine ⟨.mk p.kd p.id az :: ws, .cons _ _ _ _ (VT_mk hD hd hp h0 a1) a2, ?_, un_spc hD hd hr h0 a3 v3⟩
      rw [mtL_cons, mt_ne0 h0]
      simp [kd_mk, id_mk, args_mk, v2.1, v2.2]
    · rename_i h0
      have h0 : p.kd = 0 := by simpa using h0
      by_cases h1 : useA (use ds n) d cs rows r = true
      · rw [if_pos h1] at h
        obtain ⟨q, hq⟩ : ∃ q, absn d (ctr rows []) = some q := by
          unfold useA at h1
          cases hq : absn d (ctr rows []) with
          | none => rw [hq] at h1; cases h1
          | some q => exact ⟨q, rfl⟩
        unfold useA at h1
        rw [hq] at h1
        obtain ⟨vs, v1, v2, v3⟩ := use_sound hD hF hI n _ _ _ hcs' (dfl_conf hD hr) hr2 h1
        obtain ⟨a1, a2⟩ := absn_spec hD hF hc hd hq
        obtain ⟨v, w1, w2⟩ := conf_val hD hF hI q c hc a1
        refine ⟨v :: vs, .cons _ _ _ _ w1 v1, by rw [mtL_cons, mt_kd0 h0, v2]; rfl, fun row hrow => ?_⟩
        obtain ⟨u, s, rfl, hu, hs⟩ := row_split (hr row hrow)
        rw [mtL_cons]
        by_cases u0 : u.kd = 0
        · have : s ∈ dfl rows := mem_spc.2 (.inl ⟨u, s, hrow, u0, rfl⟩)
          rw [v3 s this, Bool.and_false]
        · have hid := ctr_all (us := []) hrow u0
          rcases a2 with ⟨e, _⟩ | ⟨p0, pn⟩
          · rw [e] at hid; simp [hasId] at hid
          · cases hm : mt u v with
            | false => rfl
            | true =>
              exfalso
              obtain ⟨_, e1, _⟩ := mt_ne p0 w2
              obtain ⟨_, e2, _⟩ := mt_ne u0 hm
              rw [e1, ← e2, hid] at pn; cases pn
      · rw [if_neg h1] at h
        obtain ⟨q, hq, hf⟩ := useL_spec.1 h
        obtain ⟨hcq, hq0, _⟩ := ctr_conf hr hq
        obtain ⟨f1, f2, f3, _⟩ := flds_ok hD hd hcq hq0
        obtain ⟨vs, v1, v2, v3⟩ := use_sound hD hF hI n _ _ _ (hcols q) (spc_conf hD hF hd hr hcq hq0) (by rw [confL_app (by simp), confL_wild (flds_cOk hF (dom_mem hd) q), hr2]; rfl) hf
        obtain ⟨az, ws, rfl, a1, a2, a3⟩ := VTL_split v1
        rw [mtL_app (by rw [a3]; simp), Bool.and_eq_true] at v2
        exact ⟨.mk q.kd q.id az :: ws, .cons _ _ _ _ (VT_mk hD hd hcq hq0 a1) a2, by rw [mtL_cons, mt_kd0 h0, v2.2]; rfl, un_spc hD hd hr hq0 a3 v3⟩
theorem use_complete {ds : List Dm} (hD : DsOk ds) (hF : FsOk ds) : ∀ (n : Nat) (cols : List Int) (rows : List (List Ty)) (row : List Ty) (vs : List Ty), (∀ c ∈ cols, cOk ds c) → (∀ r ∈ rows, confL ds r cols = true) → confL ds row cols = true → 5 * (cnR rows + cnL row) + cols.length < n →
    VTL ds vs cols → mtL row vs = true → (∀ r ∈ rows, mtL r vs = false) → use ds n cols rows row = true
  | 0, cols, rows, row, vs, _, _, _, h, _, _, _ => by omega
  | n + 1, [], rows, row, vs, _, hr, _, hm, hv, _, h => by
    cases hv
    have : rows = [] := by
      cases rows with
      | nil => rfl
      | cons row rows =>
        have h1 := hr row (by simp)
        cases row with
        | nil => have := h [] (by simp); simp [mtL] at this
        | cons p r => simp [confL] at h1
    subst this; rfl
  | n + 1, c :: cs, rows, row, v :: vs, hcs, hr, hrow, hm, .cons _ _ _ _ hv hvs, hmr, h => by
    obtain ⟨p, r, rfl, hp, hr2⟩ := row_split hrow
    obtain ⟨d, hd⟩ := cOk_get (hcs c (by simp))
    have hcs' : ∀ x ∈ cs, cOk ds x := fun x hx => hcs x (by simp [hx])
    have hcols : ∀ u, ∀ x ∈ flds d u ++ cs, cOk ds x := fun u x hx => by
      rcases List.mem_append.1 hx with hx | hx
      · exact flds_cOk hF (dom_mem hd) u x hx
      · exact hcs' x hx
    have hkv := VT_kind hd hv
    rw [mtL_cons, Bool.and_eq_true] at hmr
    simp only [use, hd]
    simp only [List.length_cons, cnL] at hm
    by_cases h0 : p.kd = 0
    · rw [if_neg (by simp [h0])]
      by_cases hu : v.kd ≠ 0 ∧ hasId (ctr rows []) v.id = true
      · obtain ⟨u, hum, hui⟩ := hasId_ex hu.2
        obtain ⟨hcu, hu0, s, hur⟩ := ctr_conf hr hum
        obtain ⟨f1, f2, f3, _⟩ := flds_ok hD hd hcu hu0
        have hva := VT_flds (u := u) hd hv hu.1 (by rw [f1, hkv]) hui
        have hlt := cnR_spc_lt (n := (flds d u).length) hu0 rfl rfl hur
        have h4 := flds_le hD (dom_mem hd) u
        have := use_complete hD hF n (flds d u ++ cs) (spc u.kd u.id (flds d u).length rows) (List.replicate (flds d u).length wT ++ r) (v.args ++ vs) (hcols u) (spc_conf hD hF hd hr hcu hu0)
          (by rw [confL_app (by simp), confL_wild (flds_cOk hF (dom_mem hd) u), hr2]; rfl) (by rw [cnL_app, cnL_wild]; simp only [List.length_append]; omega) (VTL_app hva hvs)
          (by rw [mtL_app (by rw [VTL_len hva]; simp), mtL_wild, hmr.2]; simp [VTL_len hva]) (spc_un (by rw [hkv, f1]) hui.symm (VTL_len hva) (row_len hD hd hr f1) h)
        have hL : useL (use ds n) d cs rows r (ctr rows []) = true := useL_spec.2 ⟨u, hum, this⟩
        rw [hL]
        split <;> rfl
      · have hn : v.kd ≠ 0 → hasId (ctr rows []) v.id = false := fun h0 => by
          cases e : hasId (ctr rows []) v.id with
          | false => rfl
          | true => exact absurd ⟨h0, e⟩ hu
        obtain ⟨q, hq⟩ := absn_some hD hd (us := ctr rows []) (fun hk => by
          cases e : ctr rows [] with
          | nil => rfl
          | cons u us =>
            obtain ⟨hcu, hu0, _⟩ := ctr_conf hr (u := u) (by rw [e]; simp)
            have := (flds_ok hD hd hcu hu0).1
            omega) hv hn
        have hle := cnR_spc (-1) 0 0 rows
        have := use_complete hD hF n cs (dfl rows) r vs hcs' (dfl_conf hD hr) hr2 (by unfold dfl; omega) hvs hmr.2 (dfl_un hD hr h)
        rw [if_pos (by unfold useA; rw [hq]; exact this)]
    · rw [if_pos (by simpa using h0)]
      obtain ⟨f1, f2, f3, _⟩ := flds_ok hD hd hp h0
      obtain ⟨e1, e2, hpv⟩ := mt_ne h0 hmr.1
      · · have hva := VT_flds (u := p) hd hv (by rw [← e1]; exact h0) e1 e2
          have h4 := flds_le hD (dom_mem hd) p
          have hle := cnR_spc p.kd p.id (flds d p).length rows
          have hcn := cn_ne0 h0
          exact use_complete hD hF n _ _ _ (v.args ++ vs) (hcols p) (spc_conf hD hF hd hr hp h0) (by rw [confL_app f2.symm, f3, hr2]; rfl) (by rw [cnL_app]; simp only [List.length_append]; omega) (VTL_app hva hvs)
            (by rw [mtL_app (mtL_len hpv), hpv, hmr.2]; rfl) (spc_un e1.symm e2.symm (VTL_len hva) (row_len hD hd hr f1) h)
end Go.Proofs.Ytbdoblgofddhdaa
