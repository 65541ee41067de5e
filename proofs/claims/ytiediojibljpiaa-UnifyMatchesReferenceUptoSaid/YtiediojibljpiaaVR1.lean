/- R1: joined from ZR1. -/
import Derived.Test.YtiediojibljpiaaVFnU
import Derived.Test.YtiediojibljpiaaVP7
/- The work list: as unify goes, without counting pairs. -/
set_option maxRecDepth 10000
set_option linter.unusedSimpArgs false
set_option linter.unusedVariables false
namespace Go.Proofs.Ytiediojibljpiaa
open Go Go.Ab
theorem hdN_mono : ∀ (n : Nat) (L : SB) (t r : Ty), hdN n L t = some r → hdN (n + 1) L t = some r
  | 0, L, t, r, h => by cases h
  | n + 1, L, t, r, h => by
    rw [hdN] at h ⊢
    split
    · rename_i hk
      rw [if_pos hk] at h
      cases hl : lk L t.id with
      | none => rw [hl] at h; exact h
      | some u => rw [hl] at h; exact hdN_mono n L u r h
    · rename_i hk; rw [if_neg hk] at h; exact h
theorem hdN_le {n m : Nat} (hm : n ≤ m) {L : SB} {t r : Ty} (h : hdN n L t = some r) : hdN m L t = some r := by
  induction hm with
  | refl => exact h
  | step _ ih => exact hdN_mono _ _ _ _ ih
theorem Hd.det {L : SB} {t r r' : Ty} (h : Hd L t r) (h' : Hd L t r') : r = r' := by
  obtain ⟨n, h⟩ := h
  obtain ⟨m, h'⟩ := h'
  have a := hdN_le (Nat.le_max_left n m) h
  have b := hdN_le (Nat.le_max_right n m) h'
  rw [a] at b; cases b; rfl
theorem Bnd.det {L : SB} (hw : WF L) {v : Int} (hv : lk L v = none) {t : Ty} (hg : good t) {r r' : Bool} {L1 L2 : SB} (h : Bnd L v t r L1) (h' : Bnd L v t r' L2) : r = r' ∧ L1 = L2 := by
  obtain ⟨a1, a2⟩ := bnd_spec hw hv hg h
  obtain ⟨b1, b2⟩ := bnd_spec hw hv hg h'
  cases r <;> cases r'
  · exact ⟨rfl, (a1 rfl).1.trans (b1 rfl).1.symm⟩
  · have := (a1 rfl).2; rw [(b2 rfl).2] at this; cases this
  · have := (b1 rfl).2; rw [(a2 rfl).2] at this; cases this
  · exact ⟨rfl, (a2 rfl).1.trans (b2 rfl).1.symm⟩
abbrev Prs := List (Ty × Ty)
def vvL (L : SB) (x y : Int) : SB := if x = y then L else insB L (if y > x then y else x) (.mk 1 (if y < x then y else x) [])
def WR : Nat → SB → Prs → Bool → SB → Prop
  | 0, _, _, _, _ => False
  | _ + 1, L, [], r, L' => r = true ∧ L' = L
  | n + 1, L, (a, b) :: ps, r, L' => ∃ a' b', Hd L a a' ∧ Hd L b b' ∧
    (if (a'.kd == 0 || b'.kd == 0) = true then WR n L ps r L'
     else if (a'.kd == 1 && b'.kd == 1) = true then WR n (vvL L a'.id b'.id) ps r L'
     else if (a'.kd == 1) = true then ∃ r1 L1, Bnd L a'.id b' r1 L1 ∧ (if r1 = true then WR n L1 ps r L' else r = false ∧ L' = L1)
     else if (b'.kd == 1) = true then ∃ r1 L1, Bnd L b'.id a' r1 L1 ∧ (if r1 = true then WR n L1 ps r L' else r = false ∧ L' = L1)
     else if (a'.kd != b'.kd || a'.id != b'.id || a'.args.length != b'.args.length) = true then r = false ∧ L' = L
     else WR n L (a'.args.zip b'.args ++ ps) r L')
def goodP (ps : Prs) : Prop := ∀ x ∈ ps, good x.1 ∧ good x.2
theorem goodP_zip {ta tb : List Ty} {ps : Prs} (ha : ∀ a ∈ ta, good a) (hb : ∀ b ∈ tb, good b) (hp : goodP ps) : goodP (ta.zip tb ++ ps) := fun x hx => by
  rcases List.mem_append.1 hx with hx | hx
  · have := List.of_mem_zip (a := x.1) (b := x.2) hx
    exact ⟨ha _ this.1, hb _ this.2⟩
  · exact hp x hx
theorem vvL_ext {L : SB} (hw : WF L) {x y : Int} (hx : lk L x = none) (hy : lk L y = none) (x0 : 0 ≤ x) (y0 : 0 ≤ y) : WF (vvL L x y) ∧ Ext L (vvL L x y) := by
  unfold vvL
  by_cases h : x = y
  · rw [if_pos h]; exact ⟨hw, Ext.refl _⟩
  · rw [if_neg h]
    obtain ⟨⟨a, b, _⟩, _⟩ := vv_case hw hx hy x0 y0 h rfl
    exact ⟨a, b⟩
/-- what two heads are -/
structure Heads (L : SB) (a b a' b' : Ty) : Prop where
  ga : good a'
  gb : good b'
  fa : a'.kd = 1 → lk L a'.id = none
  fb : b'.kd = 1 → lk L b'.id = none
  ea : sg L a' = sg L a
  eb : sg L b' = sg L b
theorem heads {L : SB} (hw : WF L) {a b a' b' : Ty} (ga : good a) (gb : good b) (ha : Hd L a a') (hb : Hd L b b') : Heads L a b a' b' := by
  obtain ⟨n, ha⟩ := ha
  obtain ⟨m, hb⟩ := hb
  obtain ⟨e1, g1, f1⟩ := hd_spec (wf_Sg hw) n a a' ga ha
  obtain ⟨e2, g2, f2⟩ := hd_spec (wf_Sg hw) m b b' gb hb
  exact ⟨g1, g2, f1, f2, e1, e2⟩
theorem wr_ext : ∀ (n : Nat) (L : SB) (ps : Prs) (r : Bool) (L' : SB), WR n L ps r L' → WF L → goodP ps → WF L' ∧ Ext L L'
  | 0, L, ps, r, L', h, _, _ => h.elim
  | n + 1, L, [], r, L', h, hw, _ => by obtain ⟨_, rfl⟩ := h; exact ⟨hw, Ext.refl _⟩
  | n + 1, L, (a, b) :: ps, r, L', h, hw, hg => by
    obtain ⟨a', b', ha, hb, h⟩ := h
    have hd := heads hw (hg (a, b) (by simp)).1 (hg (a, b) (by simp)).2 ha hb
    have hgp : goodP ps := fun x hx => hg x (by simp [hx])
    split at h
    · exact wr_ext n L ps r L' h hw hgp
    split at h
    · rename_i h11
      simp only [Bool.and_eq_true, beq_iff_eq] at h11
      obtain ⟨w1, w2⟩ := vvL_ext hw (hd.fa h11.1) (hd.fb h11.2) (good_var hd.ga h11.1).2 (good_var hd.gb h11.2).2
      obtain ⟨q1, q2⟩ := wr_ext n _ ps r L' h w1 hgp
      exact ⟨q1, w2.trans q2⟩
    rename_i h11
    split at h
    · rename_i h1
      have h1' : a'.kd = 1 := by simpa using h1
      have h1b : ¬ b'.kd = 1 := fun e => h11 (by simp [h1', e])
      obtain ⟨r1, L1, hB, h⟩ := h
      obtain ⟨⟨w1, w2, _⟩, _⟩ := bind_case hw (hd.fa h1') (good_var hd.ga h1').2 hd.gb h1b hB
      split at h
      · obtain ⟨q1, q2⟩ := wr_ext n _ ps r L' h w1 hgp
        exact ⟨q1, w2.trans q2⟩
      · obtain ⟨_, rfl⟩ := h; exact ⟨w1, w2⟩
    rename_i h1
    split at h
    · rename_i h1b
      have h1b' : b'.kd = 1 := by simpa using h1b
      obtain ⟨r1, L1, hB, h⟩ := h
      obtain ⟨⟨w1, w2, _⟩, _⟩ := bind_case hw (hd.fb h1b') (good_var hd.gb h1b').2 hd.ga (by simpa using h1) hB
      split at h
      · obtain ⟨q1, q2⟩ := wr_ext n _ ps r L' h w1 hgp
        exact ⟨q1, w2.trans q2⟩
      · obtain ⟨_, rfl⟩ := h; exact ⟨w1, w2⟩
    split at h
    · obtain ⟨_, rfl⟩ := h; exact ⟨hw, Ext.refl _⟩
    · exact wr_ext n L _ r L' h hw (goodP_zip (fun c hc => good_mem hd.ga hc) (fun c hc => good_mem hd.gb hc) hgp)
/-- unify is followed by the work list -/
def Follow (r : Bool) (L1 : SB) (p1 : Int) (ps : Prs) (R : Bool) (L2 : SB) : Prop := (r = true → ∃ m, WR m L1 ps R L2) ∧ (r = false → 0 ≤ p1 → R = false) ∧ (p1 < 0 → Ext L1 L2)
def FFollow (F : SB → Int → Ty → Ty → Bool → SB → Int → Prop) : Prop := ∀ L p a b r L1 p1, F L p a b r L1 p1 → WF L → good a → good b → ∀ m ps R L2, goodP ps → WR m L ((a, b) :: ps) R L2 → Follow r L1 p1 ps R L2
theorem pairs_follow {F : SB → Int → Ty → Ty → Bool → SB → Int → Prop} (hS : FSpec F) (hF : FFollow F) : ∀ (ta tb : List Ty) (L : SB) (p : Int) (r : Bool) (L1 : SB) (p1 : Int), pairsR F L p ta tb r L1 p1 → 0 ≤ p → WF L → (∀ a ∈ ta, good a) → (∀ b ∈ tb, good b) → ta.length = tb.length →
    ∀ m ps R L2, goodP ps → WR m L (ta.zip tb ++ ps) R L2 → Follow r L1 p1 ps R L2
  | [], tb, L, p, r, L1, p1, h, hp, hw, _, _, hl, m, ps, R, L2, hgp, hW => by
    obtain ⟨rfl, rfl, rfl⟩ := h
    exact ⟨fun _ => ⟨m, hW⟩, fun h => (by cases h), fun h => absurd h (by omega)⟩
  | a :: ta, [], L, p, r, L1, p1, h, _, _, _, _, _, _, _, _, _, _, _ => h.elim
  | a :: ta, b :: tb, L, p, r, L1, p1, h, hp, hw, ga, gb, hl, m, ps, R, L2, hgp, hW => by
    obtain ⟨r0, L0, p0, h0, h⟩ := h
    obtain ⟨s, sp, s0⟩ := hS _ _ _ _ _ _ _ h0 hw (ga a (by simp)) (gb b (by simp))
    have hgp2 : goodP (ta.zip tb ++ ps) := goodP_zip (fun c hc => ga c (by simp [hc])) (fun c hc => gb c (by simp [hc])) hgp
    have f := hF _ _ _ _ _ _ _ h0 hw (ga a (by simp)) (gb b (by simp)) m (ta.zip tb ++ ps) R L2 hgp2 hW
    cases r0 with
    | false =>
      rw [if_neg (by decide)] at h
      obtain ⟨rfl, rfl, rfl⟩ := h
      exact ⟨fun h => (by cases h), f.2.1, f.2.2⟩
    | true =>
      rw [if_pos rfl] at h
      obtain ⟨m', hW'⟩ := f.1 rfl
      exact pairs_follow hS hF ta tb L0 p0 r L1 p1 h (s0 rfl) s.wf (fun c hc => ga c (by simp [hc])) (fun c hc => gb c (by simp [hc])) (by simpa using hl) m' ps R L2 hgp hW'
theorem uni_follow : ∀ n, FFollow (UniR n)
  | 0 => fun L p a b r L1 p1 h => h.elim
  | n + 1 => by
    intro L p a b r L1 p1 h hw ga gb m ps R L2 hgp hW
    have hext : Ext L L2 := (wr_ext m L _ R L2 hW hw (fun x hx => by
      rcases List.mem_cons.1 hx with rfl | hx
      · exact ⟨ga, gb⟩
      · exact hgp x hx)).2
    obtain ⟨hp0, hp1, a', b', ha, hb, h⟩ := h
    have hd := heads hw ga gb ha hb
    cases m with
    | zero => exact hW.elim
    | succ m =>
    obtain ⟨a2, b2, ha2, hb2, hW⟩ := hW
    obtain rfl := ha.det ha2
    obtain rfl := hb.det hb2
    split at h
    · obtain ⟨rfl, rfl, rfl⟩ := h
      exact ⟨fun h => (by cases h), fun _ h => absurd h (by omega), fun _ => hext⟩
    rename_i hp
    split at h
    · rename_i h0
      obtain ⟨rfl, rfl, rfl⟩ := h
      rw [if_pos h0] at hW
      exact ⟨fun _ => ⟨m, hW⟩, fun h => (by cases h), fun h => absurd h (by omega)⟩
    rename_i h0
    rw [if_neg h0] at hW
    split at h
    · rename_i h11
      obtain ⟨rfl, rfl, rfl⟩ := h
      rw [if_pos h11] at hW
      exact ⟨fun _ => ⟨m, hW⟩, fun h => (by cases h), fun h => absurd h (by omega)⟩
    rename_i h11
    rw [if_neg h11] at hW
    split at h
    · rename_i h1
      have h1' : a'.kd = 1 := by simpa using h1
      rw [if_pos h1] at hW
      obtain ⟨hB, rfl⟩ := h
      obtain ⟨r2, L3, hB2, hW⟩ := hW
      obtain ⟨rfl, rfl⟩ := hB.det hw (hd.fa h1') hd.gb hB2
      cases r with
      | true => rw [if_pos rfl] at hW; exact ⟨fun _ => ⟨m, hW⟩, fun h => (by cases h), fun h => absurd h (by omega)⟩
      | false => rw [if_neg (by decide)] at hW; exact ⟨fun h => (by cases h), fun _ _ => hW.1, fun h => absurd h (by omega)⟩
    rename_i h1
    rw [if_neg h1] at hW
    split at h
    · rename_i h1b
      have h1b' : b'.kd = 1 := by simpa using h1b
      rw [if_pos h1b] at hW
      obtain ⟨hB, rfl⟩ := h
      obtain ⟨r2, L3, hB2, hW⟩ := hW
      obtain ⟨rfl, rfl⟩ := hB.det hw (hd.fb h1b') hd.ga hB2
      cases r with
      | true => rw [if_pos rfl] at hW; exact ⟨fun _ => ⟨m, hW⟩, fun h => (by cases h), fun h => absurd h (by omega)⟩
      | false => rw [if_neg (by decide)] at hW; exact ⟨fun h => (by cases h), fun _ _ => hW.1, fun h => absurd h (by omega)⟩
    rename_i h1b
    rw [if_neg h1b] at hW
    split at h
    · rename_i hm
      obtain ⟨rfl, rfl, rfl⟩ := h
      rw [if_pos hm] at hW
      exact ⟨fun h => (by cases h), fun _ _ => hW.1, fun h => absurd h (by omega)⟩
    · rename_i hm
      rw [if_neg hm] at hW
      obtain ⟨_, h⟩ := h
      simp only [Bool.or_eq_true, bne_iff_ne, ne_eq, not_or, Decidable.not_not] at hm
      exact pairs_follow (uni_spec n) (uni_follow n) a'.args b'.args L (p - 1) r L1 p1 h (by omega) hw (fun c hc => good_mem hd.ga hc) (fun c hc => good_mem hd.gb hc) hm.2 m ps R L2 hgp hW
def prs (es : List Eqn) : Prs := es.map fun e => (e.l, e.r)
theorem goodP_prs {es : List Eqn} (h : goodQ es) : goodP (prs es) := fun x hx => by
  obtain ⟨e, he, rfl⟩ := List.mem_map.1 hx
  exact h e he
theorem run_follow : ∀ (es : List Eqn) (L : SB) (r : Bool) (L1 : SB), runR L es r L1 → WF L → goodQ es → ∀ m R L2, WR m L (prs es) R L2 →
    (r = true → R = true ∧ L2 = L1) ∧ (r = false → R = false ∨ ∃ e ∈ es, ∀ θ, Hom θ → Resp θ L2 → 20001 ≤ nds (θ e.l))
  | [], L, r, L1, h, hw, _, m, R, L2, hW => by
    obtain ⟨rfl, rfl⟩ := h
    cases m with
    | zero => exact hW.elim
    | succ m => obtain ⟨rfl, rfl⟩ := hW; exact ⟨fun _ => ⟨rfl, rfl⟩, fun h => by cases h⟩
  | e :: es, L, r, L1, h, hw, hg, m, R, L2, hW => by
    obtain ⟨n, r0, L0, p0, hU, h⟩ := h
    obtain ⟨ge1, ge2⟩ := hg e (by simp)
    have hg' : goodQ es := fun c hc => hg c (by simp [hc])
    obtain ⟨s, sp, s0⟩ := uni_spec _ _ _ _ _ _ _ _ hU hw ge1 ge2
    have f := uni_follow n _ _ _ _ _ _ _ hU hw ge1 ge2 m (prs es) R L2 (goodP_prs hg') hW
    have hp0 : -1 ≤ p0 := uni_low n L 20000 e.l e.r r0 L0 p0 hU
    cases r0 with
    | false =>
      rw [if_neg (by decide)] at h
      obtain ⟨rfl, rfl⟩ := h
      refine ⟨fun h => (by cases h), fun _ => ?_⟩
      by_cases hp : 0 ≤ p0
      · exact .inl (f.2.1 rfl hp)
      · refine .inr ⟨e, by simp, fun θ hθ hr => ?_⟩
        have := s.cnt θ hθ (hr.ext (f.2.2 (by omega)))
        omega
    | true =>
      rw [if_pos rfl] at h
      obtain ⟨m', hW'⟩ := f.1 rfl
      obtain ⟨q1, q2⟩ := run_follow es L0 r L1 h s.wf hg' m' R L2 hW'
      exact ⟨q1, fun hr => (q2 hr).imp id fun ⟨c, hc, hn⟩ => ⟨c, by simp [hc], hn⟩⟩
end Go.Proofs.Ytiediojibljpiaa
