/- P4: joined from ZP4. -/
import Derived.Test.YtiediojibljpiaaVFnU
import Derived.Test.YtiediojibljpiaaVP3
/- What unify answers. -/
set_option maxRecDepth 10000
set_option linter.unusedSimpArgs false
set_option linter.unusedVariables false
namespace Go.Proofs.Ytiediojibljpiaa
open Go Go.Ab
theorem bind_case {L : SB} (hw : WF L) {v : Int} (hv : lk L v = none) (h0 : 0 ≤ v) {t : Ty} (hg : good t) (hk : ¬ t.kd = 1) {r : Bool} {L' : SB} (h : Bnd L v t r L') :
    (WF L' ∧ Ext L L' ∧ L'.length ≤ L.length + 1) ∧ (neS L → neT t = true → neS L') ∧ (r = true → ∀ θ, Resp θ L' → θ (.mk 1 v []) = θ t) ∧ ∀ θ, Hom θ → Resp θ L → θ (.mk 1 v []) = θ t → r = true ∧ Resp θ L' := by
  obtain ⟨s1, s2⟩ := bnd_spec hw hv hg h
  cases r with
  | false =>
    obtain ⟨rfl, ho⟩ := s1 rfl
    refine ⟨⟨hw, Ext.refl _, by omega⟩, fun h _ => h, fun h => (by cases h), fun θ hθ hr he => ?_⟩
    exfalso
    have h1 := (occ_le hθ _ (sg L' t) (Nat.le_refl _) (sg_wf hw t hg.1) ho).2 (by rw [sg_app L' t hk]; exact hk)
    rw [hom_sg hθ hw hr t hg.1, he] at h1
    exact Nat.lt_irrefl _ h1
  | true =>
    obtain ⟨rfl, ho⟩ := s2 rfl
    refine ⟨⟨.snoc hw hv hg ho (fun h => absurd h hk) h0, ⟨_, rfl⟩, by simp⟩, fun h ht => neS_snoc h ht, fun _ θ hr => ((resp_snoc hv).1 hr).2, fun θ hθ hr he => ⟨rfl, (resp_snoc hv).2 ⟨hr, he⟩⟩⟩
theorem vv_case {L : SB} (hw : WF L) {x y : Int} (hx : lk L x = none) (hy : lk L y = none) (x0 : 0 ≤ x) (y0 : 0 ≤ y) (hne : ¬ x = y) {L' : SB} (h : L' = insB L (if y > x then y else x) (.mk 1 (if y < x then y else x) [])) :
    (WF L' ∧ Ext L L' ∧ L'.length ≤ L.length + 1) ∧ (neS L → neS L') ∧ (∀ θ, Resp θ L' → θ (.mk 1 x []) = θ (.mk 1 y [])) ∧ ∀ θ, Resp θ L → θ (.mk 1 x []) = θ (.mk 1 y []) → Resp θ L' := by
  have key : ∀ v w : Int, lk L v = none → lk L w = none → 0 ≤ v → 0 ≤ w → w < v → L' = insB L v (.mk 1 w []) → ((WF L' ∧ Ext L L' ∧ L'.length ≤ L.length + 1) ∧ (neS L → neS L') ∧ (∀ θ, Resp θ L' → θ (.mk 1 v []) = θ (.mk 1 w [])) ∧ ∀ θ, Resp θ L → θ (.mk 1 v []) = θ (.mk 1 w []) → Resp θ L') := by
    intro v w hv hw1 v0 w0 hlt e
    rw [insB_new hv] at e
    have hg : good (.mk 1 w []) := ⟨by simp [wfT, nwf, wfTL, w0], by simp [nds, ndsL]⟩
    have hf := sg_free hw _ hg rfl hw1
    have ho : occ v (sg L (.mk 1 w [])) = false := by
      rw [hf]
      have : ¬ w = v := by omega
      simp [occ, occL, this]
    subst e
    exact ⟨⟨.snoc hw hv hg ho (fun _ => ⟨hw1, hlt⟩) v0, ⟨_, rfl⟩, by simp⟩, fun h => neS_snoc h (by simp [neT, neTL]), fun θ hr => ((resp_snoc hv).1 hr).2, fun θ hr he => (resp_snoc hv).2 ⟨hr, he⟩⟩
  by_cases hlt : y < x
  · rw [if_neg (by omega), if_pos hlt] at h
    exact key x y hx hy x0 y0 hlt h
  · rw [if_pos (by omega), if_neg hlt] at h
    obtain ⟨a, b, c, d⟩ := key y x hy hx y0 x0 (by omega) h
    exact ⟨a, b, fun θ hr => (c θ hr).symm, fun θ hr he => d θ hr he.symm⟩
structure USpec (L : SB) (p : Int) (m : (Ty → Ty) → Nat) (eq : (Ty → Ty) → Prop) (nea : Prop) (r : Bool) (L' : SB) (p' : Int) : Prop where
  wf : WF L'
  ext : Ext L L'
  len : (L'.length : Int) + p' ≤ L.length + p
  cnt : ∀ θ, Hom θ → Resp θ L' → p - p' ≤ m θ
  ne : neS L → nea → neS L'
  snd : neS L → nea → r = true → ∀ θ, Hom θ → Resp θ L' → eq θ
  cpl : neS L → nea → ∀ θ, Hom θ → Resp θ L → eq θ → Resp θ L' ∧ (r = false → p' < 0)
def FSpec (F : SB → Int → Ty → Ty → Bool → SB → Int → Prop) : Prop := ∀ L p a b r L' p', F L p a b r L' p' → WF L → good a → good b → USpec L p (fun θ => nds (θ a)) (fun θ => θ a = θ b) (neT a = true ∧ neT b = true) r L' p' ∧ p' < p ∧ (r = true → 0 ≤ p')
theorem pairs_spec {F : SB → Int → Ty → Ty → Bool → SB → Int → Prop} (hF : FSpec F) : ∀ (ta tb : List Ty) (L : SB) (p : Int) (r : Bool) (L' : SB) (p' : Int), pairsR F L p ta tb r L' p' → WF L → (∀ a ∈ ta, good a) → (∀ b ∈ tb, good b) → ta.length = tb.length →
    USpec L p (fun θ => ndsL (ta.map θ)) (fun θ => ta.map θ = tb.map θ) ((∀ a ∈ ta, neT a = true) ∧ ∀ b ∈ tb, neT b = true) r L' p' ∧ p' ≤ p ∧ (r = true → 0 ≤ p → 0 ≤ p')
  | [], tb, L, p, r, L', p', h, hw, _, _, hl => by
    obtain ⟨rfl, rfl, rfl⟩ := h
    have htb : tb = [] := by simpa using hl.symm
    subst htb
    exact ⟨⟨hw, Ext.refl _, Int.le_refl _, fun θ _ _ => by simp [ndsL], fun h _ => h, fun _ _ _ θ _ _ => rfl, fun _ _ θ _ hr _ => ⟨hr, fun h => by cases h⟩⟩, Int.le_refl _, fun _ h => h⟩
  | a :: ta, [], L, p, r, L', p', h, _, _, _, _ => h.elim
  | a :: ta, b :: tb, L, p, r, L', p', h, hw, ha, hb, hl => by
    obtain ⟨r1, L1, p1, h1, h⟩ := h
    obtain ⟨s, sp, s0⟩ := hF _ _ _ _ _ _ _ h1 hw (ha a (by simp)) (hb b (by simp))
    cases r1 with
    | false =>
      rw [if_neg (by decide)] at h
      obtain ⟨rfl, rfl, rfl⟩ := h
      refine ⟨⟨s.wf, s.ext, s.len, fun θ hθ hr => ?_, fun h1 h2 => s.ne h1 ⟨h2.1 a (by simp), h2.2 b (by simp)⟩, fun _ _ h => (by cases h), fun h1 h2 θ hθ hr he => ?_⟩, by omega, fun h => (by cases h)⟩
      · have := s.cnt θ hθ hr
        simp only [List.map_cons, ndsL]; omega
      · simp only [List.map_cons, List.cons.injEq] at he
        exact s.cpl h1 ⟨h2.1 a (by simp), h2.2 b (by simp)⟩ θ hθ hr he.1
    | true =>
      rw [if_pos rfl] at h
      obtain ⟨q, qp, q0⟩ := pairs_spec hF ta tb L1 p1 r L' p' h s.wf (fun c hc => ha c (by simp [hc])) (fun c hc => hb c (by simp [hc])) (by simpa using hl)
      refine ⟨⟨q.wf, s.ext.trans q.ext, Int.le_trans q.len s.len, fun θ hθ hr => ?_, fun h1 h2 => ?_, fun h1 h2 hr θ hθ hre => ?_, fun h1 h2 θ hθ hr he => ?_⟩, by omega, fun hr _ => q0 hr (s0 rfl)⟩
      · have e1 := s.cnt θ hθ (hr.ext q.ext)
        have e2 := q.cnt θ hθ hr
        simp only [List.map_cons, ndsL]; omega
      · have e1 := s.ne h1 ⟨h2.1 a (by simp), h2.2 b (by simp)⟩
        exact q.ne e1 ⟨fun c hc => h2.1 c (by simp [hc]), fun c hc => h2.2 c (by simp [hc])⟩
      · have e1 := s.ne h1 ⟨h2.1 a (by simp), h2.2 b (by simp)⟩
        have e2 := s.snd h1 ⟨h2.1 a (by simp), h2.2 b (by simp)⟩ rfl θ hθ (hre.ext q.ext)
        have e3 := q.snd e1 ⟨fun c hc => h2.1 c (by simp [hc]), fun c hc => h2.2 c (by simp [hc])⟩ hr θ hθ hre
        simp only [List.map_cons, e2, e3]
      · simp only [List.map_cons, List.cons.injEq] at he
        have e1 := s.ne h1 ⟨h2.1 a (by simp), h2.2 b (by simp)⟩
        have e2 := (s.cpl h1 ⟨h2.1 a (by simp), h2.2 b (by simp)⟩ θ hθ hr he.1).1
        exact q.cpl e1 ⟨fun c hc => h2.1 c (by simp [hc]), fun c hc => h2.2 c (by simp [hc])⟩ θ hθ e2 he.2
theorem uni_spec : ∀ n, FSpec (UniR n)
  | 0 => fun L p a b r L' p' h => h.elim
  | n + 1 => by
    intro L p a b r L' p' h hw ga gb
    obtain ⟨hp0, hp1, a', b', ⟨na, ha⟩, ⟨nb, hb⟩, h⟩ := h
    have hσ := wf_Sg hw
    obtain ⟨_, ga', fa⟩ := hd_spec hσ na a a' ga ha
    obtain ⟨_, gb', fb⟩ := hd_spec hσ nb b b' gb hb
    have ra : ∀ {θ : Ty → Ty}, Resp θ L → θ a' = θ a := fun hr => hd_resp hw hr na a a' ga ha
    have rb : ∀ {θ : Ty → Ty}, Resp θ L → θ b' = θ b := fun hr => hd_resp hw hr nb b b' gb hb
    have npos : ∀ θ : Ty → Ty, (1 : Int) ≤ nds (θ a) := fun θ => by have := nds_pos (θ a); omega
    have nea : neS L → neT a = true → neT a' = true := fun h1 h2 => hd_ne h1 na a a' h2 ha
    have neb : neS L → neT b = true → neT b' = true := fun h1 h2 => hd_ne h1 nb b b' h2 hb
    split at h
    · obtain ⟨rfl, rfl, rfl⟩ := h
      exact ⟨⟨hw, Ext.refl _, by omega, fun θ _ _ => by have := npos θ; omega, fun h _ => h, fun _ _ h => (by cases h), fun _ _ θ _ hr _ => ⟨hr, fun _ => by omega⟩⟩, by omega, fun h => (by cases h)⟩
    rename_i hp
    split at h
    · rename_i h0
      obtain ⟨rfl, rfl, rfl⟩ := h
      have hno : neS L' → neT a = true ∧ neT b = true → False := fun h1 h2 => by
        rw [ne_kd (nea h1 h2.1), ne_kd (neb h1 h2.2)] at h0
        cases h0
      exact ⟨⟨hw, Ext.refl _, by omega, fun θ _ _ => by have := npos θ; omega, fun h _ => h, fun h1 h2 _ => (hno h1 h2).elim, fun h1 h2 => (hno h1 h2).elim⟩, by omega, fun _ => by omega⟩
    split at h
    · rename_i h11
      simp only [Bool.and_eq_true, beq_iff_eq] at h11
      obtain ⟨ea, a0⟩ := good_var ga' h11.1
      obtain ⟨eb, b0⟩ := good_var gb' h11.2
      obtain ⟨rfl, hL, rfl⟩ := h
      by_cases hid : a'.id = b'.id
      · rw [if_pos hid] at hL
        subst hL
        exact ⟨⟨hw, Ext.refl _, by omega, fun θ _ _ => by have := npos θ; omega, fun h _ => h, fun _ _ _ θ _ hr => by rw [← ra hr, ← rb hr, ea, eb, hid], fun _ _ θ _ hr _ => ⟨hr, fun h => (by cases h)⟩⟩, by omega, fun _ => by omega⟩
      · rw [if_neg hid] at hL
        obtain ⟨⟨w1, w2, w3⟩, w4, w5, w6⟩ := vv_case hw (fa h11.1) (fb h11.2) a0 b0 hid hL
        exact ⟨⟨w1, w2, by omega, fun θ _ _ => by have := npos θ; omega, fun h _ => w4 h, fun _ _ _ θ _ hr => by
          rw [← ra (hr.ext w2), ← rb (hr.ext w2), ea, eb]; exact w5 θ hr, fun _ _ θ _ hr he => ⟨w6 θ hr (by rw [← ea, ← eb, ra hr, rb hr]; exact he), fun h => (by cases h)⟩⟩, by omega, fun _ => by omega⟩
    rename_i h11
    split at h
    · rename_i h1a
      have h1a' : a'.kd = 1 := by simpa using h1a
      have h1b : ¬ b'.kd = 1 := fun e => h11 (by simp [h1a', e])
      obtain ⟨ea, a0⟩ := good_var ga' h1a'
      obtain ⟨hB, rfl⟩ := h
      obtain ⟨⟨w1, w2, w3⟩, w4, w5, w6⟩ := bind_case hw (fa h1a') a0 gb' h1b hB
      exact ⟨⟨w1, w2, by omega, fun θ _ _ => by have := npos θ; omega, fun h1 h2 => w4 h1 (neb h1 h2.2), fun _ _ h θ _ hr => by
        rw [← ra (hr.ext w2), ← rb (hr.ext w2), ea]; exact w5 h θ hr, fun _ _ θ hθ hr he => by
        obtain ⟨e1, e2⟩ := w6 θ hθ hr (by rw [← ea, ra hr, rb hr]; exact he)
        exact ⟨e2, fun h => by rw [e1] at h; cases h⟩⟩, by omega, fun _ => by omega⟩
    rename_i h1a
    split at h
    · rename_i h1b
      have h1b' : b'.kd = 1 := by simpa using h1b
      have h1a' : ¬ a'.kd = 1 := by simpa using h1a
      obtain ⟨eb, b0⟩ := good_var gb' h1b'
      obtain ⟨hB, rfl⟩ := h
      obtain ⟨⟨w1, w2, w3⟩, w4, w5, w6⟩ := bind_case hw (fb h1b') b0 ga' h1a' hB
      exact ⟨⟨w1, w2, by omega, fun θ _ _ => by have := npos θ; omega, fun h1 h2 => w4 h1 (nea h1 h2.1), fun _ _ h θ _ hr => by
        rw [← ra (hr.ext w2), ← rb (hr.ext w2), eb]; exact (w5 h θ hr).symm, fun _ _ θ hθ hr he => by
        obtain ⟨e1, e2⟩ := w6 θ hθ hr (by rw [← eb, ra hr, rb hr]; exact he.symm)
        exact ⟨e2, fun h => by rw [e1] at h; cases h⟩⟩, by omega, fun _ => by omega⟩
    rename_i h1b
    have h1a' : ¬ a'.kd = 1 := by simpa using h1a
    have h1b' : ¬ b'.kd = 1 := by simpa using h1b
    split at h
    · rename_i hm
      obtain ⟨rfl, rfl, rfl⟩ := h
      refine ⟨⟨hw, Ext.refl _, by omega, fun θ _ _ => by have := npos θ; omega, fun h _ => h, fun _ _ h => (by cases h), fun _ _ θ hθ hr he => ?_⟩, by omega, fun h => (by cases h)⟩
      exfalso
      rw [← ra hr, ← rb hr, hθ a' h1a', hθ b' h1b'] at he
      simp only [Ty.mk.injEq] at he
      obtain ⟨e1, e2, e3⟩ := he
      have e4 := congrArg List.length e3
      simp only [List.length_map] at e4
      simp [e1, e2, e4] at hm
    · rename_i hm
      obtain ⟨_, h⟩ := h
      simp only [Bool.or_eq_true, bne_iff_ne, ne_eq, not_or, Decidable.not_not] at hm
      obtain ⟨⟨m1, m2⟩, m3⟩ := hm
      obtain ⟨s, sp, s0⟩ := pairs_spec (uni_spec n) a'.args b'.args L (p - 1) r L' p' h hw (fun c hc => good_mem ga' hc) (fun c hc => good_mem gb' hc) m3
      refine ⟨⟨s.wf, s.ext, by have := s.len; omega, fun θ hθ hr => ?_, fun h1 h2 => s.ne h1 ⟨fun c hc => ne_mem (nea h1 h2.1) hc, fun c hc => ne_mem (neb h1 h2.2) hc⟩, fun h1 h2 h θ hθ hr => ?_, fun h1 h2 θ hθ hr he => ?_⟩, by omega, fun h => s0 h (by omega)⟩
      · have := s.cnt θ hθ hr
        rw [← ra (hr.ext s.ext), hθ a' h1a']
        simp only [nds]; omega
      · have e := s.snd h1 ⟨fun c hc => ne_mem (nea h1 h2.1) hc, fun c hc => ne_mem (neb h1 h2.2) hc⟩ h θ hθ hr
        rw [← ra (hr.ext s.ext), ← rb (hr.ext s.ext), hθ a' h1a', hθ b' h1b', m1, m2, e]
      · rw [← ra hr, ← rb hr, hθ a' h1a', hθ b' h1b'] at he
        simp only [Ty.mk.injEq] at he
        exact s.cpl h1 ⟨fun c hc => ne_mem (nea h1 h2.1) hc, fun c hc => ne_mem (neb h1 h2.2) hc⟩ θ hθ hr he.2.2
end Go.Proofs.Ytiediojibljpiaa
