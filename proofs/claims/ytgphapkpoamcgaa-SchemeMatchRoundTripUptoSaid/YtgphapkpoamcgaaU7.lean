/- Matching and applying: the plain laws. -/
import Derived.Test.YtgphapkpoamcgaaU5
set_option linter.unusedSimpArgs false
set_option linter.unusedVariables false
namespace Go.Proofs.Ytgphapkpoamcgaa
open Go Go.Ab
theorem app_par {ps : List Int} {xs : List Ty} {k id : Int} {qs : List Ty} (h : isPar ps k id = true) (hl : parI ps id < xs.length) : appT ps xs (.mk k id qs) = xs.getD (parI ps id) zT := by
  have hg : appG ps xs (.mk k id qs) = (xs.getD (parI ps id) zT, true) := by simp only [appG, Ty.kd, Ty.id, h, if_true, hl, decide_true]
  simp only [appT, mapT, hg, if_true]
theorem app_not {ps : List Int} {xs : List Ty} {k id : Int} {qs : List Ty} (h : isPar ps k id = false) : appT ps xs (.mk k id qs) = .mk k id (mapTL (appG ps xs) qs) := by
  have hg : appG ps xs (.mk k id qs) = (.mk k id qs, false) := by simp only [appG, Ty.kd, Ty.id, h, Bool.false_eq_true, if_false]
  simp only [appT, mapT, hg, Bool.false_eq_true, if_false]
theorem par_lt {ps : List Int} {k id : Int} (h : isPar ps k id = true) : parI ps id < ps.length := by
  rcases par_cases ps k id with ⟨_, _, i, hi, _, e⟩ | ⟨h', _⟩
  · omega
  · rw [h] at h'; cases h'
/-- bound entries stay -/
def Keeps (As : List Ty) (Bs : List Bool) (As' : List Ty) (Bs' : List Bool) : Prop := ∀ i, Bs.getD i false = true → Bs'.getD i false = true ∧ As'.getD i zT = As.getD i zT
theorem Keeps.refl (As : List Ty) (Bs : List Bool) : Keeps As Bs As Bs := fun i h => ⟨h, rfl⟩
theorem Keeps.trans {As Bs As1 Bs1 As2 Bs2} (h : Keeps As Bs As1 Bs1) (k : Keeps As1 Bs1 As2 Bs2) : Keeps As Bs As2 Bs2 := fun i hi => by
  obtain ⟨h1, h2⟩ := h i hi
  obtain ⟨k1, k2⟩ := k i h1
  exact ⟨k1, k2.trans h2⟩
def Agree (Bs : List Bool) (As Xs : List Ty) : Prop := ∀ i, Bs.getD i false = true → Xs.getD i zT = As.getD i zT
theorem getD_setB (Bs : List Bool) (i j : Nat) (hi : i < Bs.length) : (Bs.set i true).getD j false = if i = j then true else Bs.getD j false := by
  rw [List.getD_eq_getElem?_getD, List.getElem?_set, List.getD_eq_getElem?_getD]
  by_cases h : i = j
  · subst h; simp [hi]
  · simp [h]
theorem getD_setA (As : List Ty) (i j : Nat) (t : Ty) (hi : i < As.length) : (As.set i t).getD j zT = if i = j then t else As.getD j zT := by
  rw [List.getD_eq_getElem?_getD, List.getElem?_set, List.getD_eq_getElem?_getD]
  by_cases h : i = j
  · subst h; simp [hi]
  · simp [h]
mutual
theorem mch_app (ps : List Int) : ∀ (p t : Ty) (As : List Ty) (Bs : List Bool), As.length = ps.length → Bs.length = ps.length → (mch ps p t As Bs).1 = true →
    Keeps As Bs (mch ps p t As Bs).2.1 (mch ps p t As Bs).2.2 ∧ ∀ Xs : List Ty, Xs.length = ps.length → Agree (mch ps p t As Bs).2.2 (mch ps p t As Bs).2.1 Xs → appT ps Xs p = t
  | .mk k id qs, t, As, Bs, hA, hB, h => by
    cases hp : isPar ps k id with
    | true =>
      have hi := par_lt hp
      rw [mch_par qs t As Bs hp] at h ⊢
      by_cases hb : Bs.getD (parI ps id) false = true
      · rw [if_pos hb] at h ⊢
        have e := (eqT_iff _ _).1 h
        refine ⟨Keeps.refl _ _, fun Xs hX hag => ?_⟩
        rw [app_par hp (by omega), hag _ hb]; exact e
      · rw [if_neg hb] at h ⊢
        refine ⟨fun i hbi => ?_, fun Xs hX hag => ?_⟩
        · have hne : ¬ parI ps id = i := fun e => hb (e ▸ hbi)
          rw [getD_setB _ _ _ (by omega), getD_setA _ _ _ _ (by omega), if_neg hne, if_neg hne]
          exact ⟨hbi, rfl⟩
        · have := hag (parI ps id) (by show (Bs.set (parI ps id) true).getD _ _ = true; rw [getD_setB _ _ _ (by omega), if_pos rfl])
          rw [app_par hp (by omega), this]
          show (As.set (parI ps id) t).getD _ _ = t
          rw [getD_setA _ _ _ _ (by omega), if_pos rfl]
    | false =>
      by_cases hc : t.kd == k ∧ t.id == id ∧ (t.args.length : Int) == qs.length
      · rw [mch_yes qs t As Bs hp hc] at h ⊢
        have hl : t.args.length = qs.length := by have := hc.2.2; simp at this; omega
        obtain ⟨h1, h2⟩ := mchL_app ps qs t.args As Bs hl.symm hA hB h
        refine ⟨h1, fun Xs hX hag => ?_⟩
        rw [app_not hp, h2 Xs hX hag]
        obtain ⟨k', id', ts⟩ := t
        have hk : k' = k := by simpa [Ty.kd] using hc.1
        have hd : id' = id := by simpa [Ty.id] using hc.2.1
        subst hk; subst hd; rfl
      · rw [mch_no qs t As Bs hp hc] at h; cases h
theorem mchL_app (ps : List Int) : ∀ (qs ts : List Ty) (As : List Ty) (Bs : List Bool), qs.length = ts.length → As.length = ps.length → Bs.length = ps.length → (mchL ps qs ts As Bs).1 = true →
    Keeps As Bs (mchL ps qs ts As Bs).2.1 (mchL ps qs ts As Bs).2.2 ∧ ∀ Xs : List Ty, Xs.length = ps.length → Agree (mchL ps qs ts As Bs).2.2 (mchL ps qs ts As Bs).2.1 Xs → mapTL (appG ps Xs) qs = ts
  | [], [], As, Bs, _, _, _, _ => ⟨Keeps.refl _ _, fun _ _ _ => rfl⟩
  | [], _ :: _, As, Bs, hl, _, _, _ => by simp at hl
  | _ :: _, [], As, Bs, hl, _, _, _ => by simp at hl
  | q :: qs, t :: ts, As, Bs, hl, hA, hB, h => by
    simp only [mchL] at h ⊢
    by_cases hc : (mch ps q t As Bs).1 = true
    · rw [if_pos hc] at h ⊢
      have hlen := mch_len ps q t As Bs
      obtain ⟨h1, h2⟩ := mch_app ps q t As Bs hA hB hc
      obtain ⟨h3, h4⟩ := mchL_app ps qs ts _ _ (by simpa using hl) (hlen.1.trans hA) (hlen.2.trans hB) h
      refine ⟨h1.trans h3, fun Xs hX hag => ?_⟩
      have e1 := h2 Xs hX fun i hi => by
        obtain ⟨b1, b2⟩ := h3 i hi
        rw [hag i b1, b2]
      have e2 := h4 Xs hX hag
      unfold appT at e1
      simp only [mapTL, e1, e2]
    · rw [if_neg hc] at h; cases h
end
/-- what is bound is what was put in; what is not bound is the zero type -/
def From (xs As : List Ty) (Bs : List Bool) : Prop := ∀ i, (Bs.getD i false = true → As.getD i zT = xs.getD i zT) ∧ (Bs.getD i false = false → As.getD i zT = zT)
mutual
theorem mch_back (ps : List Int) (xs : List Ty) (hx : ps.length ≤ xs.length) : ∀ (p : Ty) (As : List Ty) (Bs : List Bool), As.length = ps.length → Bs.length = ps.length → From xs As Bs →
    (mch ps p (appT ps xs p) As Bs).1 = true ∧ From xs (mch ps p (appT ps xs p) As Bs).2.1 (mch ps p (appT ps xs p) As Bs).2.2
  | .mk k id qs, As, Bs, hA, hB, hf => by
    cases hp : isPar ps k id with
    | true =>
      have hi := par_lt hp
      rw [app_par hp (by omega), mch_par qs _ As Bs hp]
      by_cases hb : Bs.getD (parI ps id) false = true
      · rw [if_pos hb]
        refine ⟨?_, hf⟩
        rw [(hf _).1 hb]; exact (eqT_iff _ _).2 rfl
      · rw [if_neg hb]
        refine ⟨rfl, fun i => ?_⟩
        show ((Bs.set (parI ps id) true).getD i false = true → (As.set (parI ps id) (xs.getD (parI ps id) zT)).getD i zT = xs.getD i zT) ∧ ((Bs.set (parI ps id) true).getD i false = false → (As.set (parI ps id) (xs.getD (parI ps id) zT)).getD i zT = zT)
        rw [getD_setB _ _ _ (by omega), getD_setA _ _ _ _ (by omega)]
        by_cases e : parI ps id = i
        · rw [if_pos e, if_pos e, e]; exact ⟨fun _ => rfl, fun h => by cases h⟩
        · rw [if_neg e, if_neg e]; exact hf i
    | false =>
      rw [app_not hp, mch_yes qs (.mk k id (mapTL (appG ps xs) qs)) As Bs hp ⟨by simp [Ty.kd], by simp [Ty.id], by simp [Ty.args, mapTL_len]⟩]
      exact mchL_back ps xs hx qs As Bs hA hB hf
theorem mchL_back (ps : List Int) (xs : List Ty) (hx : ps.length ≤ xs.length) : ∀ (qs : List Ty) (As : List Ty) (Bs : List Bool), As.length = ps.length → Bs.length = ps.length → From xs As Bs →
    (mchL ps qs (mapTL (appG ps xs) qs) As Bs).1 = true ∧ From xs (mchL ps qs (mapTL (appG ps xs) qs) As Bs).2.1 (mchL ps qs (mapTL (appG ps xs) qs) As Bs).2.2
  | [], As, Bs, _, _, hf => ⟨rfl, hf⟩
  | q :: qs, As, Bs, hA, hB, hf => by
    obtain ⟨h1, h2⟩ := mch_back ps xs hx q As Bs hA hB hf
    unfold appT at h1 h2
    have hlen := mch_len ps q (mapT (appG ps xs) q) As Bs
    simp only [mapTL, mchL, h1, if_true]
    exact mchL_back ps xs hx qs _ _ (hlen.1.trans hA) (hlen.2.trans hB) h2
end
theorem match_app {ps : List Int} {t p : Ty} (h : (matchR ps t p).1 = true) : (matchR ps t p).2.length = ps.length ∧ appT ps (matchR ps t p).2 p = t := by
  unfold matchR at h ⊢
  have hl := mch_len ps p t (List.replicate ps.length zT) (List.replicate ps.length false)
  simp only at h
  simp only [h, if_true]
  obtain ⟨_, h2⟩ := mch_app ps p t _ _ (by simp) (by simp) h
  exact ⟨by simpa using hl.1, h2 _ (by simpa using hl.1) fun i _ => rfl⟩
theorem match_not {ps : List Int} {t p : Ty} (h : (matchR ps t p).1 = false) : (matchR ps t p).2 = [] := by
  unfold matchR at h ⊢
  simp only at h
  simp only [h, Bool.false_eq_true, if_false]
theorem match_back {ps : List Int} {p : Ty} {xs : List Ty} (hx : ps.length ≤ xs.length) : (matchR ps (appT ps xs p) p).1 = true ∧ (matchR ps (appT ps xs p) p).2.length = ps.length ∧
    ∀ i, ((matchR ps (appT ps xs p) p).2.getD i zT).kd = 0 ∨ (matchR ps (appT ps xs p) p).2.getD i zT = xs.getD i zT := by
  obtain ⟨h1, h2⟩ := mch_back ps xs hx p (List.replicate ps.length zT) (List.replicate ps.length false) (by simp) (by simp) fun i => by
    have e1 : (List.replicate ps.length false).getD i false = false := by
      rw [List.getD_eq_getElem?_getD, List.getElem?_replicate]; split <;> rfl
    have e2 : (List.replicate ps.length zT).getD i zT = zT := by
      rw [List.getD_eq_getElem?_getD, List.getElem?_replicate]; split <;> rfl
    rw [e1, e2]; exact ⟨fun h => (by cases h), fun _ => rfl⟩
  have hl := mch_len ps p (appT ps xs p) (List.replicate ps.length zT) (List.replicate ps.length false)
  unfold matchR
  simp only [h1, if_true, true_and]
  refine ⟨by simpa using hl.1, fun i => ?_⟩
  cases hb : (mch ps p (appT ps xs p) (List.replicate ps.length zT) (List.replicate ps.length false)).2.2.getD i false with
  | true => exact .inr ((h2 i).1 hb)
  | false => rw [(h2 i).2 hb]; exact .inl rfl
end Go.Proofs.Ytgphapkpoamcgaa
