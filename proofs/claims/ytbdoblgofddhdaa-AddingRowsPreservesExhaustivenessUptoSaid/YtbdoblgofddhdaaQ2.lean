/- Q2: joined from Q2. -/
import Derived.Test.YtbdoblgofddhdaaQ1
/- Exhaustiveness: what is missing, what is useful: the theory. -/
set_option maxRecDepth 10000
set_option linter.unusedSimpArgs false
set_option linter.unusedVariables false
namespace Go.Proofs.Ytbdoblgofddhdaa
open Go Go.Ab
def cOk (ds : List Dm) (c : Int) : Prop := 0 ≤ c ∧ c.toNat < ds.length
def FsOk (ds : List Dm) : Prop := ∀ d ∈ ds, ∀ v ∈ d.vs, ∀ f ∈ v.fs, cOk ds f
theorem cOk_get {ds : List Dm} {c : Int} (h : cOk ds c) : ∃ d, ds[c.toNat]? = some d := ⟨_, List.getElem?_eq_getElem h.2⟩
theorem conf_cases {ds : List Dm} {p : Ty} {c : Int} (h : conf ds p c = true) : ∃ d, ds[c.toNat]? = some d ∧
    ((p.kd = 0 ∧ p.id = 0 ∧ p.args = []) ∨ (p.kd ≠ 0 ∧ p.kd = d.k ∧ ((d.k = 2 ∧ p.args = []) ∨ (d.k = 3 ∧ (p.id = 0 ∨ p.id = 1) ∧ p.args = []) ∨
      (d.k ≠ 2 ∧ d.k ≠ 3 ∧ ∃ v, vfind p.id d.vs = some v ∧ v.fs.length = p.args.length ∧ confL ds p.args v.fs = true)))) := by
  cases p with
  | mk k id az =>
    simp only [conf] at h
    split at h
    · cases h
    · rename_i d hd
      refine ⟨d, hd, ?_⟩
      simp only [Ty.kd, Ty.id, Ty.args]
      split at h
      · rename_i h0
        split at h
        · rename_i h1
          exact .inl ⟨by simpa using h0, by simpa using h1, by simpa using h⟩
        · cases h
      · rename_i h0
        have h0 : k ≠ 0 := by simpa using h0
        split at h
        · cases h
        · rename_i h1
          have h1 : k = d.k := by simpa using h1
          refine .inr ⟨h0, h1, ?_⟩
          split at h
          · rename_i h2
            exact .inl ⟨by rw [← h1]; simpa using h2, by simpa using h⟩
          · rename_i h2
            split at h
            · rename_i h3
              by_cases h4 : (if id == 0 then true else id == 1) = true
              · rw [if_pos h4] at h
                refine .inr (.inl ⟨by rw [← h1]; simpa using h3, ?_, by simpa using h⟩)
                by_cases h5 : id = 0
                · exact .inl h5
                · rw [if_neg (by simpa using h5)] at h4; exact .inr (by simpa using h4)
              · rw [if_neg h4] at h; cases h
            · rename_i h3
              split at h
              · cases h
              · rename_i v hv
                split at h
                · rename_i h4
                  exact .inr (.inr ⟨by rw [← h1]; simpa using h2, by rw [← h1]; simpa using h3, v, hv, by simpa using h4, h⟩)
                · cases h
theorem dom_mem {ds : List Dm} {c : Int} {d : Dm} (h : ds[c.toNat]? = some d) : d ∈ ds := List.mem_of_getElem? h
theorem flds_ok {ds : List Dm} (hD : DsOk ds) {p : Ty} {c : Int} {d : Dm} (hd : ds[c.toNat]? = some d) (h : conf ds p c = true) (h0 : p.kd ≠ 0) :
    p.kd = d.k ∧ (flds d p).length = p.args.length ∧ confL ds p.args (flds d p) = true ∧ (d.k = 1 → ∃ v, vfind p.id d.vs = some v ∧ flds d p = v.fs) ∧ (d.k ≠ 1 → flds d p = [] ∧ p.args = []) := by
  obtain ⟨d', hd', hc⟩ := conf_cases h
  rw [hd] at hd'; cases hd'
  rcases hc with ⟨h1, _⟩ | ⟨_, h2, hc⟩
  · exact absurd h1 h0
  refine ⟨h2, ?_⟩
  rcases hc with ⟨h3, h4⟩ | ⟨h3, _, h4⟩ | ⟨h3, h3', v, hv, hl, hc⟩
  · have e : flds d p = [] := by unfold flds; rw [h2, h3]; rfl
    rw [e, h4]; exact ⟨rfl, rfl, fun h => by omega, fun _ => ⟨rfl, rfl⟩⟩
  · have e : flds d p = [] := by unfold flds; rw [h2, h3]; rfl
    rw [e, h4]; exact ⟨rfl, rfl, fun h => by omega, fun _ => ⟨rfl, rfl⟩⟩
  · have hk : d.k = 1 := by
      rcases hD.kinds d (dom_mem hd) with h | h | h | h
      · rw [h2, h] at h0; exact absurd rfl h0
      · exact h
      · exact absurd h h3
      · exact absurd h h3'
    have e : flds d p = v.fs := by unfold flds; rw [h2, hk, hv]; rfl
    rw [e]; exact ⟨hl, hc, fun _ => ⟨v, hv, rfl⟩, fun h => absurd hk h⟩
theorem flds_same {d : Dm} {p q : Ty} (h1 : p.kd = q.kd) (h2 : p.id = q.id) : flds d p = flds d q := by unfold flds; rw [h1, h2]
theorem flds_cOk {ds : List Dm} (hF : FsOk ds) {d : Dm} (hd : d ∈ ds) (p : Ty) : (∀ f ∈ flds d p, cOk ds f) := by
  intro f hf
  unfold flds at hf
  split at hf
  · split at hf
    · rename_i v hv; exact hF d hd v (vfind_mem hv).1 f hf
    · cases hf
  · cases hf
theorem flds_le {ds : List Dm} (hD : DsOk ds) {d : Dm} (hd : d ∈ ds) (p : Ty) : (flds d p).length ≤ 4 := by
  unfold flds
  split
  · split
    · rename_i v hv; exact hD.arity d hd v (vfind_mem hv).1
    · simp
  · simp
/-- a constructor with other arguments -/
theorem conf_mk {ds : List Dm} (hD : DsOk ds) {p : Ty} {c : Int} {d : Dm} (hd : ds[c.toNat]? = some d) (h : conf ds p c = true) (h0 : p.kd ≠ 0) {az : List Ty} (ha : confL ds az (flds d p) = true) : conf ds (.mk p.kd p.id az) c = true := by
  obtain ⟨d', hd', hc⟩ := conf_cases h
  obtain ⟨f1, f2, f3, f4, f5⟩ := flds_ok hD hd h h0
  rw [hd] at hd'; cases hd'
  have hl := confL_len ha
  rcases hc with ⟨h1, _⟩ | ⟨_, h2, hc⟩
  · exact absurd h1 h0
  have e0 : (p.kd == 0) = false := by simpa using h0
  have e1 : (p.kd == d.k) = true := by simpa using h2
  simp only [conf, hd, e0, e1, Bool.false_eq_true, Bool.not_true, if_false]
  rcases hc with ⟨h3, h4⟩ | ⟨h3, hb, h4⟩ | ⟨h3, h3', v, hv, hl', hc⟩
  · have : az = [] := by rw [(f5 (by omega)).1] at hl; exact List.eq_nil_of_length_eq_zero (by simpa using hl)
    rw [h2, h3, this]; rfl
  · have : az = [] := by rw [(f5 (by omega)).1] at hl; exact List.eq_nil_of_length_eq_zero (by simpa using hl)
    rw [h2, h3, this]
    rcases hb with hb | hb <;> simp [hb]
  · have hk : d.k = 1 := by
      rcases hD.kinds d (dom_mem hd) with h | h | h | h
      · rw [h2, h] at h0; exact absurd rfl h0
      · exact h
      · exact absurd h h3
      · exact absurd h h3'
    obtain ⟨w, hw, he⟩ := f4 hk
    rw [hv] at hw; cases hw
    rw [he] at ha hl
    have e2 : (p.kd == 2) = false := by rw [h2, hk]; rfl
    have e3 : (p.kd == 3) = false := by rw [h2, hk]; rfl
    simp [e2, e3, hv, hl, ha]
theorem conf_wild {ds : List Dm} {c : Int} (h : cOk ds c) : conf ds wT c = true := by
  obtain ⟨d, hd⟩ := cOk_get h
  simp [wT, conf, hd]
theorem confL_wild {ds : List Dm} : ∀ {fs : List Int}, (∀ f ∈ fs, cOk ds f) → confL ds (List.replicate fs.length wT) fs = true
  | [], _ => rfl
  | f :: fs, h => by
    rw [List.length_cons, List.replicate_succ, confL_cons, conf_wild (h f (by simp)), confL_wild fun g hg => h g (by simp [hg])]; rfl
theorem row_split {ds : List Dm} {row : List Ty} {c : Int} {cs : List Int} (h : confL ds row (c :: cs) = true) : ∃ p r, row = p :: r ∧ conf ds p c = true ∧ confL ds r cs = true := by
  cases row with
  | nil => simp [confL] at h
  | cons p r =>
    rw [confL_cons, Bool.and_eq_true] at h
    exact ⟨p, r, rfl, h.1, h.2⟩
theorem spc_conf {ds : List Dm} (hD : DsOk ds) (hF : FsOk ds) {rows : List (List Ty)} {c : Int} {cs : List Int} {d : Dm} (hd : ds[c.toNat]? = some d) (hr : ∀ row ∈ rows, confL ds row (c :: cs) = true) {u : Ty} (hu : conf ds u c = true) (h0 : u.kd ≠ 0) :
    ∀ r' ∈ spc u.kd u.id (flds d u).length rows, confL ds r' (flds d u ++ cs) = true := by
  intro r' h
  obtain ⟨_, f2, f3, _⟩ := flds_ok hD hd hu h0
  rcases mem_spc.1 h with ⟨p, r, h1, h2, rfl⟩ | ⟨p, r, h1, h2, h3, h4, rfl⟩
  · have := hr _ h1
    rw [confL_cons, Bool.and_eq_true] at this
    rw [confL_app (by simp), confL_wild (flds_cOk hF (dom_mem hd) u), this.2]; rfl
  · have := hr _ h1
    rw [confL_cons, Bool.and_eq_true] at this
    obtain ⟨_, g2, g3, _⟩ := flds_ok hD hd this.1 h2
    rw [flds_same (d := d) h3 h4] at g2 g3
    rw [confL_app g2.symm, g3, this.2]; rfl
theorem mem_dfl {ds : List Dm} (hD : DsOk ds) {rows : List (List Ty)} {c : Int} {cs : List Int} (hr : ∀ row ∈ rows, confL ds row (c :: cs) = true) {r' : List Ty} (h : r' ∈ dfl rows) : ∃ p, (p :: r') ∈ rows ∧ p.kd = 0 := by
  rcases mem_spc.1 h with ⟨p, r, h1, h2, h3⟩ | ⟨p, r, h1, h2, h3, h4, h5⟩
  · simp only [List.replicate_zero, List.nil_append] at h3
    subst h3; exact ⟨p, h1, h2⟩
  · have := hr _ h1
    rw [confL_cons, Bool.and_eq_true] at this
    obtain ⟨d, hd, hc⟩ := conf_cases this.1
    rcases hc with ⟨e, _⟩ | ⟨_, e, _⟩
    · exact absurd e h2
    · rcases hD.kinds d (dom_mem hd) with k | k | k | k <;> omega
theorem dfl_conf {ds : List Dm} (hD : DsOk ds) {rows : List (List Ty)} {c : Int} {cs : List Int} (hr : ∀ row ∈ rows, confL ds row (c :: cs) = true) : ∀ r' ∈ dfl rows, confL ds r' cs = true := by
  intro r' h
  obtain ⟨p, h1, _⟩ := mem_dfl hD hr h
  have := hr _ h1
  rw [confL_cons, Bool.and_eq_true] at this
  exact this.2
/-! ### what is not used -/
theorem free_ex : ∀ (m : Nat) (us : List Ty) (n : Int), us.length ≤ m → ∃ j : Nat, j ≤ us.length ∧ hasId us (n + j) = false
  | 0, us, n, h => ⟨0, Nat.zero_le _, by
      have : us = [] := List.eq_nil_of_length_eq_zero (by omega)
      subst this; rfl⟩
  | m + 1, us, n, h => by
    cases h0 : hasId us n with
    | false => exact ⟨0, Nat.zero_le _, by simpa using h0⟩
    | true =>
      have hlt : (us.filter fun q => !(q.id == n)).length < us.length := by
        unfold hasId at h0
        obtain ⟨x, hx, hxn⟩ := List.any_eq_true.1 h0
        have hle := List.length_filter_le (fun q : Ty => !(q.id == n)) us
        rcases Nat.lt_or_ge (us.filter fun q => !(q.id == n)).length us.length with h | h
        · exact h
        · have := List.length_filter_eq_length_iff.1 (Nat.le_antisymm hle h) x hx
          rw [hxn] at this; cases this
      obtain ⟨j, hj, e⟩ := free_ex m (us.filter fun q => !(q.id == n)) (n + 1) (by omega)
      refine ⟨j + 1, by omega, ?_⟩
      unfold hasId at e ⊢
      rw [List.any_eq_false] at e ⊢
      intro x hx
      intro hxe
      have hxe : x.id = n + ((j + 1 : Nat) : Int) := by simpa using hxe
      refine e x (List.mem_filter.2 ⟨hx, ?_⟩) ?_
      · simp; omega
      · simp; omega
theorem freeN_spec (us : List Ty) : ∀ (k : Nat) (n : Int), (∃ j : Nat, j ≤ k ∧ hasId us (n + j) = false) → hasId us (freeN us k n) = false
  | 0, n, ⟨j, hj, e⟩ => by
    have : j = 0 := by omega
    subst this; simpa [freeN] using e
  | k + 1, n, ⟨j, hj, e⟩ => by
    simp only [freeN]
    cases h0 : hasId us n with
    | false => simp [h0]
    | true =>
      rw [if_pos rfl]
      refine freeN_spec us k (n + 1) ?_
      cases j with
      | zero => simp [h0] at e
      | succ j => exact ⟨j, by omega, by rw [← e]; congr 1; omega⟩
theorem freeV_spec {us : List Ty} : ∀ {vs : List Vr} {v : Vr}, freeV us vs = some v → v ∈ vs ∧ hasId us v.id = false
  | [], v, h => by simp [freeV] at h
  | w :: vs, v, h => by
    simp only [freeV] at h
    split at h
    · obtain ⟨h1, h2⟩ := freeV_spec h; exact ⟨by simp [h1], h2⟩
    · rename_i e; cases h; exact ⟨by simp, by simpa using e⟩
theorem freeV_some {us : List Ty} : ∀ {vs : List Vr} {v : Vr}, v ∈ vs → hasId us v.id = false → ∃ w, freeV us vs = some w
  | [], v, h, _ => by cases h
  | w :: vs, v, h, e => by
    simp only [freeV]
    cases h0 : hasId us w.id with
    | false => exact ⟨w, by simp⟩
    | true =>
      rw [if_pos rfl]
      rcases List.mem_cons.1 h with rfl | h
      · rw [e] at h0; cases h0
      · exact freeV_some h e
theorem absn_spec {ds : List Dm} (hD : DsOk ds) (hF : FsOk ds) {c : Int} (hc : cOk ds c) {d : Dm} (hd : ds[c.toNat]? = some d) {us : List Ty} {p : Ty} (h : absn d us = some p) :
    conf ds p c = true ∧ ((us = [] ∧ p = wT) ∨ (p.kd ≠ 0 ∧ hasId us p.id = false)) := by
  unfold absn at h
  split at h
  · rename_i h0
    cases h
    exact ⟨conf_wild hc, .inl ⟨by simpa using h0, rfl⟩⟩
  · split at h
    · rename_i h2
      cases h
      have h2 : d.k = 2 := by simpa using h2
      refine ⟨by simp [conf, hd, h2], .inr ⟨by simp [Ty.kd], ?_⟩⟩
      simp only [Ty.id]
      exact freeN_spec us _ _ (free_ex us.length us 0 (Nat.le_refl _))
    · split at h
      · rename_i h2 h3
        have h3 : d.k = 3 := by simpa using h3
        split at h
        · rename_i h4
          cases h
          exact ⟨by simp [conf, hd, h3], .inr ⟨by simp [Ty.kd], by simp only [Ty.id]; simpa using h4⟩⟩
        · split at h
          · rename_i h4
            cases h
            exact ⟨by simp [conf, hd, h3], .inr ⟨by simp [Ty.kd], by simp only [Ty.id]; simpa using h4⟩⟩
          · cases h
      · rename_i h2 h3
        split at h
        · cases h
        · rename_i v hv
          cases h
          obtain ⟨hm, hn⟩ := freeV_spec hv
          have hk : d.k = 1 := by
            rcases hD.kinds d (dom_mem hd) with k | k | k | k
            · have := hD.flat d (dom_mem hd) (by omega)
              rw [this] at hm; cases hm
            · exact k
            · rw [k] at h2; simp at h2
            · rw [k] at h3; simp at h3
          have hvf := hD.uniq d (dom_mem hd) v hm
          refine ⟨?_, .inr ⟨by simp [Ty.kd], hn⟩⟩
          simp only [conf, hd, hk, hvf]
          have := confL_wild (hF d (dom_mem hd) v hm)
          simp [this]
/-- a value whose constructor is not used: something is absent -/
theorem absn_some {ds : List Dm} (hD : DsOk ds) {c : Int} {d : Dm} (hd : ds[c.toNat]? = some d) {us : List Ty} (hk0 : d.k = 0 → us = []) {v : Ty} (hv : VT ds v c) (hn : v.kd ≠ 0 → hasId us v.id = false) : ∃ p, absn d us = some p := by
  unfold absn
  by_cases h0 : us.length = 0
  · exact ⟨wT, by simp [h0]⟩
  · have hne : us ≠ [] := fun e => h0 (by rw [e]; rfl)
    have e0 : (us.length == 0) = false := by simpa using h0
    rw [e0]
    cases hv with
    | any _ d' hd' hk => rw [hd] at hd'; cases hd'; exact absurd (hk0 hk) hne
    | int _ d' n hd' hk => rw [hd] at hd'; cases hd'; simp [hk]
    | bool _ d' n hd' hk hb =>
      rw [hd] at hd'; cases hd'
      have := hn (by simp [Ty.kd])
      simp only [Ty.id] at this
      rcases hb with rfl | rfl
      · simp [hk, this]
      · cases h1 : hasId us 0 <;> simp [hk, this, h1]
    | vr _ d' w az hd' hk hw _ =>
      rw [hd] at hd'; cases hd'
      have := hn (by simp [Ty.kd])
      simp only [Ty.id] at this
      obtain ⟨w', e⟩ := freeV_some (vfind_mem hw).1 this
      simp [hk, e]
theorem mt_ne {p v : Ty} (h : p.kd ≠ 0) (hm : mt p v = true) : p.kd = v.kd ∧ p.id = v.id ∧ mtL p.args v.args = true := by
  rw [mt_ne0 h] at hm
  by_cases h1 : p.kd = v.kd
  · rw [if_pos (by simpa using h1)] at hm
    by_cases h2 : p.id = v.id
    · rw [if_pos (by simpa using h2)] at hm; exact ⟨h1, h2, hm⟩
    · rw [if_neg (by simpa using h2)] at hm; cases hm
  · rw [if_neg (by simpa using h1)] at hm; cases hm
theorem mt_mk {k id : Int} {az : List Ty} {v : Ty} (h : k ≠ 0) (hm : mt (.mk k id az) v = true) : k = v.kd ∧ id = v.id ∧ mtL az v.args = true := mt_ne (p := .mk k id az) h hm
/-! ### what is missing -/
theorem misL_spec {f : List Int → List (List Ty) → Option (List Ty)} {d : Dm} {cs : List Int} {rows : List (List Ty)} : ∀ {us : List Ty} {r : List Ty}, misL f d cs rows us = some r →
    ∃ u row, u ∈ us ∧ f (flds d u ++ cs) (spc u.kd u.id (flds d u).length rows) = some row ∧ r = .mk u.kd u.id (row.take (flds d u).length) :: row.drop (flds d u).length
  | [], r, h => by simp [misL] at h
  | u :: us, r, h => by
    simp only [misL] at h
    split at h
    · rename_i row e; cases h; exact ⟨u, row, by simp, e, rfl⟩
    · obtain ⟨u', row, h1, h2⟩ := misL_spec h; exact ⟨u', row, by simp [h1], h2⟩
theorem misL_some {f : List Int → List (List Ty) → Option (List Ty)} {d : Dm} {cs : List Int} {rows : List (List Ty)} : ∀ {us : List Ty} {u : Ty}, u ∈ us → (f (flds d u ++ cs) (spc u.kd u.id (flds d u).length rows)).isSome = true → (misL f d cs rows us).isSome = true
  | [], u, h, _ => by cases h
  | w :: us, u, h, e => by
    simp only [misL]
    split
    · rfl
    · rename_i hn
      rcases List.mem_cons.1 h with rfl | h
      · rw [hn] at e; cases e
      · exact misL_some h e
theorem ctr_conf {ds : List Dm} {rows : List (List Ty)} {c : Int} {cs : List Int} (hr : ∀ row ∈ rows, confL ds row (c :: cs) = true) {u : Ty} (h : u ∈ ctr rows []) : conf ds u c = true ∧ u.kd ≠ 0 ∧ ∃ r, (u :: r) ∈ rows := by
  rcases ctr_mem h with h | ⟨r, h1, h2⟩
  · cases h
  · have := hr _ h1
    rw [confL_cons, Bool.and_eq_true] at this
    exact ⟨this.1, h2, r, h1⟩
theorem mis_sound {ds : List Dm} (hD : DsOk ds) (hF : FsOk ds) : ∀ (n : Nat) (cols : List Int) (rows : List (List Ty)) (r : List Ty), (∀ c ∈ cols, cOk ds c) → (∀ row ∈ rows, confL ds row cols = true) → mis ds n cols rows = some r →
    confL ds r cols = true ∧ ∀ row ∈ rows, ∀ vs, mtL r vs = true → mtL row vs = false
  | 0, cols, rows, r, _, _, h => by simp [mis] at h
  | n + 1, [], rows, r, _, hr, h => by
    simp only [mis] at h
    split at h
    · rename_i h0
      cases h
      have : rows = [] := by simpa using h0
      subst this
      exact ⟨rfl, fun row h => by cases h⟩
    · cases h
  | n + 1, c :: cs, rows, r, hcs, hr, h => by
    have hc := hcs c (by simp)
    have hcs' : ∀ x ∈ cs, cOk ds x := fun x hx => hcs x (by simp [hx])
    simp only [mis] at h
    split at h
    · cases h
    rename_i d hd
    have L : ∀ {us : List Ty} {r : List Ty}, (∀ u ∈ us, u ∈ ctr rows []) → misL (mis ds n) d cs rows us = some r → confL ds r (c :: cs) = true ∧ ∀ row ∈ rows, ∀ vs, mtL r vs = true → mtL row vs = false := by
      intro us r hus hm
      obtain ⟨u, row', hu, hf, rfl⟩ := misL_spec hm
      obtain ⟨hcu, hu0, _⟩ := ctr_conf hr (hus u hu)
      have hcols : ∀ x ∈ flds d u ++ cs, cOk ds x := fun x hx => by
        rcases List.mem_append.1 hx with hx | hx
        · exact flds_cOk hF (dom_mem hd) u x hx
        · exact hcs' x hx
      obtain ⟨i1, i2⟩ := mis_sound hD hF n _ _ _ hcols (spc_conf hD hF hd hr hcu hu0) hf
      have hl : row'.length = (flds d u).length + cs.length := by rw [confL_len i1, List.length_append]
      have hsp : row' = row'.take (flds d u).length ++ row'.drop (flds d u).length := (List.take_append_drop _ _).symm
      have htl : (row'.take (flds d u).length).length = (flds d u).length := by rw [List.length_take]; omega
      rw [hsp, confL_app htl, Bool.and_eq_true] at i1
      refine ⟨by rw [confL_cons, conf_mk hD hd hcu hu0 i1.1, i1.2]; rfl, fun row hrow vs hvs => ?_⟩
      obtain ⟨q, s, rfl, hq, hs⟩ := row_split (hr row hrow)
      cases vs with
      | nil => simp [mtL] at hvs
      | cons v vs =>
        rw [mtL_cons, Bool.and_eq_true] at hvs
        obtain ⟨hv, hvs⟩ := hvs
        obtain ⟨e1, e2, hv⟩ := mt_mk hu0 hv
        · · have e1 : u.kd = v.kd := e1
            have hal := mtL_len hv
            rw [htl] at hal
            have hm : mtL row' (v.args ++ vs) = true := by rw [hsp, mtL_app (by rw [htl]; exact hal), hv, hvs]; rfl
            cases hh : mtL (q :: s) (v :: vs) with
            | false => rfl
            | true =>
              rw [mtL_cons, Bool.and_eq_true] at hh
              exfalso
              by_cases q0 : q.kd = 0
              · have := i2 _ (mem_spc.2 (.inl ⟨q, s, hrow, q0, rfl⟩)) _ hm
                rw [mtL_app (by simp [hal]), mtL_wild, hh.2] at this
                simp [hal] at this
              · obtain ⟨e3, e4, hqv⟩ := mt_ne q0 hh.1
                · · have := i2 _ (mem_spc.2 (.inr ⟨q, s, hrow, q0, by rw [e3, e1], by rw [e4, e2], rfl⟩)) _ hm
                    rw [mtL_app (mtL_len hqv), hqv, hh.2] at this
                    cases this
    split at h
    · exact L (fun u h => h) h
    · rename_i p hp
      split at h
      · rename_i r' hr'
        cases h
        obtain ⟨a1, a2⟩ := absn_spec hD hF hc hd hp
        obtain ⟨i1, i2⟩ := mis_sound hD hF n _ _ _ hcs' (dfl_conf hD hr) hr'
        refine ⟨by rw [confL_cons, a1, i1]; rfl, fun row hrow vs hvs => ?_⟩
        obtain ⟨q, s, rfl, hq, hs⟩ := row_split (hr row hrow)
        cases vs with
        | nil => simp [mtL] at hvs
        | cons v vs =>
          rw [mtL_cons, Bool.and_eq_true] at hvs
          rw [mtL_cons]
          by_cases q0 : q.kd = 0
          · have : s ∈ dfl rows := mem_spc.2 (.inl ⟨q, s, hrow, q0, rfl⟩)
            rw [i2 s this vs hvs.2, Bool.and_false]
          · have hid := ctr_all (us := []) hrow q0
            rcases a2 with ⟨e, _⟩ | ⟨p0, pn⟩
            · rw [e] at hid; simp [hasId] at hid
            · cases hm : mt q v with
              | false => rfl
              | true =>
                exfalso
                obtain ⟨_, e1, _⟩ := mt_ne p0 hvs.1
                obtain ⟨_, e2, _⟩ := mt_ne q0 hm
                rw [e1, ← e2, hid] at pn; cases pn
      · exact L (fun u h => h) h
end Go.Proofs.Ytbdoblgofddhdaa
