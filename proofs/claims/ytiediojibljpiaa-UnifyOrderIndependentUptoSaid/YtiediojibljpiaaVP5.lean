/- P5: joined from ZP5. -/
import Derived.Test.YtiediojibljpiaaVFnU
import Derived.Test.YtiediojibljpiaaVP4
import Derived.Test.YtiediojibljpiaaVB6
/- unify always answers; the system of equations; what Unify answers. -/
set_option maxRecDepth 10000
set_option linter.unusedSimpArgs false
set_option linter.unusedVariables false
namespace Go.Proofs.Ytiediojibljpiaa
open Go Go.Ab
theorem pairs_total {F : SB → Int → Ty → Ty → Bool → SB → Int → Prop} (hF : FSpec F) : ∀ (ta tb : List Ty) (L : SB) (p : Int), (∀ q, 0 ≤ q → q ≤ p → ∀ L a b, WF L → good a → good b → ∃ r L' p', F L q a b r L' p') → WF L → (∀ a ∈ ta, good a) → (∀ b ∈ tb, good b) → ta.length = tb.length → 0 ≤ p → ∃ r L' p', pairsR F L p ta tb r L' p'
  | [], tb, L, p, _, _, _, _, _, _ => ⟨true, L, p, rfl, rfl, rfl⟩
  | a :: ta, [], L, p, _, _, _, _, hl, _ => by simp at hl
  | a :: ta, b :: tb, L, p, ht, hw, ha, hb, hl, hp => by
    obtain ⟨r1, L1, p1, h1⟩ := ht p hp (Int.le_refl _) L a b hw (ha a (by simp)) (hb b (by simp))
    obtain ⟨s, sp, s0⟩ := hF _ _ _ _ _ _ _ h1 hw (ha a (by simp)) (hb b (by simp))
    cases r1 with
    | false => exact ⟨false, L1, p1, false, L1, p1, h1, by rw [if_neg (by decide)]; exact ⟨rfl, rfl, rfl⟩⟩
    | true =>
      obtain ⟨r, L', p', h2⟩ := pairs_total hF ta tb L1 p1 (fun q q0 q1 => ht q q0 (by omega)) s.wf (fun c hc => ha c (by simp [hc])) (fun c hc => hb c (by simp [hc])) (by simpa using hl) (s0 rfl)
      exact ⟨r, L', p', true, L1, p1, h1, by rw [if_pos rfl]; exact h2⟩
theorem uni_total : ∀ (n : Nat) (L : SB) (p : Int) (a b : Ty), WF L → good a → good b → 0 ≤ p → p ≤ 20000 → p < n → ∃ r L' p', UniR n L p a b r L' p'
  | 0, L, p, a, b, _, _, _, h0, _, h1 => by omega
  | n + 1, L, p, a, b, hw, ga, gb, h0, h2, h1 => by
    have hσ := wf_Sg hw
    obtain ⟨na, a', ha⟩ := hσ.hd a ga
    obtain ⟨nb, b', hb⟩ := hσ.hd b gb
    obtain ⟨_, ga', fa⟩ := hd_spec hσ na a a' ga ha
    obtain ⟨_, gb', fb⟩ := hd_spec hσ nb b b' gb hb
    suffices hs : ∃ r L' p', (if p - 1 < 0 then r = false ∧ L' = L ∧ p' = p - 1
     else if (a'.kd == 0 || b'.kd == 0) = true then r = true ∧ L' = L ∧ p' = p - 1
     else if (a'.kd == 1 && b'.kd == 1) = true then r = true ∧ L' = (if a'.id = b'.id then L else insB L (if b'.id > a'.id then b'.id else a'.id) (.mk 1 (if b'.id < a'.id then b'.id else a'.id) [])) ∧ p' = p - 1
     else if (a'.kd == 1) = true then Bnd L a'.id b' r L' ∧ p' = p - 1
     else if (b'.kd == 1) = true then Bnd L b'.id a' r L' ∧ p' = p - 1
     else if (a'.kd != b'.kd || a'.id != b'.id || a'.args.length != b'.args.length) = true then r = false ∧ L' = L ∧ p' = p - 1
     else a'.args.length ≤ 1000000 ∧ pairsR (UniR n) L (p - 1) a'.args b'.args r L' p') by
      obtain ⟨r, L', p', h⟩ := hs
      exact ⟨r, L', p', h0, h2, a', b', ⟨na, ha⟩, ⟨nb, hb⟩, h⟩
    split
    · exact ⟨_, _, _, rfl, rfl, rfl⟩
    rename_i hp
    split
    · exact ⟨_, _, _, rfl, rfl, rfl⟩
    split
    · exact ⟨_, _, _, rfl, rfl, rfl⟩
    split
    · obtain ⟨b1, L1, h⟩ := bnd_total hw (v := a'.id) gb'
      exact ⟨_, _, _, h, rfl⟩
    split
    · obtain ⟨b1, L1, h⟩ := bnd_total hw (v := b'.id) ga'
      exact ⟨_, _, _, h, rfl⟩
    split
    · exact ⟨_, _, _, rfl, rfl, rfl⟩
    rename_i hm
    simp only [Bool.or_eq_true, bne_iff_ne, ne_eq, not_or, Decidable.not_not] at hm
    obtain ⟨r, L', p', h⟩ := pairs_total (uni_spec n) a'.args b'.args L (p - 1) (fun q q0 q1 L a b hw ga gb => uni_total n L q a b hw ga gb q0 (by omega) (by omega)) hw (fun c hc => good_mem ga' hc) (fun c hc => good_mem gb' hc) hm.2 (by omega)
    exact ⟨r, L', p', by have := good_len ga'; omega, h⟩
theorem pairs_low {F : SB → Int → Ty → Ty → Bool → SB → Int → Prop} (hF : ∀ L p a b r L' p', F L p a b r L' p' → -1 ≤ p') : ∀ (ta tb : List Ty) (L : SB) (p : Int) (r : Bool) (L' : SB) (p' : Int), -1 ≤ p → pairsR F L p ta tb r L' p' → -1 ≤ p'
  | [], tb, L, p, r, L', p', hp, h => by obtain ⟨_, _, rfl⟩ := h; exact hp
  | a :: ta, [], L, p, r, L', p', _, h => h.elim
  | a :: ta, b :: tb, L, p, r, L', p', hp, h => by
    obtain ⟨r1, L1, p1, h1, h⟩ := h
    have h2 := hF _ _ _ _ _ _ _ h1
    split at h
    · exact pairs_low hF ta tb L1 p1 r L' p' h2 h
    · obtain ⟨_, _, rfl⟩ := h; exact h2
theorem uni_low : ∀ (n : Nat) (L : SB) (p : Int) (a b : Ty) (r : Bool) (L' : SB) (p' : Int), UniR n L p a b r L' p' → -1 ≤ p'
  | 0, L, p, a, b, r, L', p', h => h.elim
  | n + 1, L, p, a, b, r, L', p', h => by
    obtain ⟨h0, _, a', b', _, _, h⟩ := h
    repeat' split at h
    all_goals first
      | (obtain ⟨_, _, rfl⟩ := h; omega)
      | (obtain ⟨_, rfl⟩ := h; omega)
      | exact pairs_low (fun L p a b r L' p' h => uni_low n L p a b r L' p' h) _ _ _ _ _ _ _ (by omega) h.2
def goodQ (es : List Eqn) : Prop := ∀ e ∈ es, good e.l ∧ good e.r
def neQ (es : List Eqn) : Prop := ∀ e ∈ es, neT e.l = true ∧ neT e.r = true
/-- θ solves the equations -/
def Sol (θ : Ty → Ty) (es : List Eqn) : Prop := ∀ e ∈ es, θ e.l = θ e.r
theorem run_total : ∀ (es : List Eqn) (L : SB), WF L → goodQ es → ∃ r L', runR L es r L'
  | [], L, _, _ => ⟨true, L, rfl, rfl⟩
  | e :: es, L, hw, hg => by
    obtain ⟨r1, L1, p1, h1⟩ := uni_total 20001 L 20000 e.l e.r hw (hg e (by simp)).1 (hg e (by simp)).2 (by omega) (by omega) (by omega)
    obtain ⟨s, _, _⟩ := uni_spec _ _ _ _ _ _ _ _ h1 hw (hg e (by simp)).1 (hg e (by simp)).2
    cases r1 with
    | false => exact ⟨false, L1, _, false, L1, p1, h1, by rw [if_neg (by decide)]; exact ⟨rfl, rfl⟩⟩
    | true =>
      obtain ⟨r, L', h2⟩ := run_total es L1 s.wf fun c hc => hg c (by simp [hc])
      exact ⟨r, L', _, true, L1, p1, h1, by rw [if_pos rfl]; exact h2⟩
structure RSpec (L : SB) (es : List Eqn) (r : Bool) (L' : SB) : Prop where
  wf : WF L'
  ext : Ext L L'
  len : L'.length ≤ L.length + 20002 * es.length
  ne : neS L → neQ es → neS L'
  snd : neS L → neQ es → r = true → ∀ θ, Hom θ → Resp θ L' → Sol θ es
  cpl : neS L → neQ es → ∀ θ, Hom θ → Resp θ L → Sol θ es → Resp θ L' ∧ ((∀ e ∈ es, nds (θ e.l) < 20000) → r = true)
theorem run_spec : ∀ (es : List Eqn) (L : SB) (r : Bool) (L' : SB), runR L es r L' → WF L → goodQ es → RSpec L es r L'
  | [], L, r, L', h, hw, _ => by
    obtain ⟨rfl, rfl⟩ := h
    exact ⟨hw, Ext.refl _, by simp, fun h _ => h, fun _ _ _ θ _ _ e he => (by cases he), fun _ _ θ _ hr _ => ⟨hr, fun _ => rfl⟩⟩
  | e :: es, L, r, L', h, hw, hg => by
    obtain ⟨n, r1, L1, p1, hU, h⟩ := h
    obtain ⟨s, sp, s0⟩ := uni_spec _ _ _ _ _ _ _ _ hU hw (hg e (by simp)).1 (hg e (by simp)).2
    have hl := s.len
    have hp1 : -1 ≤ p1 := uni_low n L 20000 e.l e.r r1 L1 p1 hU
    cases r1 with
    | false =>
      rw [if_neg (by decide)] at h
      obtain ⟨rfl, rfl⟩ := h
      refine ⟨s.wf, s.ext, by simp only [List.length_cons]; omega, fun h1 h2 => s.ne h1 (h2 e (by simp)), fun _ _ h => (by cases h), fun h1 h2 θ hθ hr hs => ?_⟩
      obtain ⟨e1, e2⟩ := s.cpl h1 (h2 e (by simp)) θ hθ hr (hs e (by simp))
      refine ⟨e1, fun hn => ?_⟩
      exfalso
      have e3 := e2 rfl
      have e4 := s.cnt θ hθ e1
      have e5 := hn e (by simp)
      omega
    | true =>
      rw [if_pos rfl] at h
      have q := run_spec es L1 r L' h s.wf fun c hc => hg c (by simp [hc])
      have hq := q.len
      refine ⟨q.wf, s.ext.trans q.ext, by simp only [List.length_cons]; omega, fun h1 h2 => q.ne (s.ne h1 (h2 e (by simp))) fun c hc => h2 c (by simp [hc]), fun h1 h2 hr θ hθ hre c hc => ?_, fun h1 h2 θ hθ hr hs => ?_⟩
      · rcases List.mem_cons.1 hc with rfl | hc
        · exact s.snd h1 (h2 c (by simp)) rfl θ hθ (hre.ext q.ext)
        · exact q.snd (s.ne h1 (h2 e (by simp))) (fun c hc => h2 c (by simp [hc])) hr θ hθ hre c hc
      · obtain ⟨e1, _⟩ := s.cpl h1 (h2 e (by simp)) θ hθ hr (hs e (by simp))
        obtain ⟨e2, e3⟩ := q.cpl (s.ne h1 (h2 e (by simp))) (fun c hc => h2 c (by simp [hc])) θ hθ e1 fun c hc => hs c (by simp [hc])
        exact ⟨e2, fun hn => e3 fun c hc => hn c (by simp [hc])⟩
end Go.Proofs.Ytiediojibljpiaa
