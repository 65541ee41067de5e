/- P2: joined from ZP2. -/
import Derived.Test.YtiediojibljpiaaVFnU
import Derived.Test.YtiediojibljpiaaVP1
import Derived.Test.YtiediojibljpiaaVB3
/- occurs: what it answers. -/
set_option maxRecDepth 10000
set_option linter.unusedSimpArgs false
set_option linter.unusedVariables false
namespace Go.Proofs.Ytiediojibljpiaa
open Go Go.Ab
theorem anyM_mono {σ : Type} {f g : Ty → σ → Option (Bool × σ)} (h : ∀ t x r, f t x = some r → g t x = some r) : ∀ (ts : List Ty) (x : σ) (r : Bool × σ), anyM f ts x = some r → anyM g ts x = some r
  | [], x, r, e => e
  | t :: ts, x, r, e => by
    simp only [anyM] at e ⊢
    cases hf : f t x with
    | none => rw [hf] at e; cases e
    | some p =>
      obtain ⟨b, x'⟩ := p
      rw [hf] at e
      rw [h _ _ _ hf]
      simp only at e ⊢
      split
      · rename_i hb; rw [if_pos hb] at e; exact e
      · rename_i hb; rw [if_neg hb] at e; exact anyM_mono h ts x' r e
theorem ocN_mono : ∀ (n : Nat) (L : SB) (v : Int) (t : Ty) (V : List Int) (r : Bool × List Int), ocN n L v t V = some r → ocN (n + 1) L v t V = some r
  | 0, L, v, t, V, r, h => by cases h
  | n + 1, L, v, t, V, r, h => by
    rw [ocN] at h ⊢
    split
    · rename_i hk
      rw [if_pos hk] at h
      split
      · rename_i hi; rw [if_pos hi] at h; exact h
      · rename_i hi
        rw [if_neg hi] at h
        cases hl : lk L t.id with
        | none => rw [hl] at h; exact h
        | some u =>
          rw [hl] at h
          simp only at h ⊢
          split
          · rename_i hc; rw [if_pos hc] at h; exact h
          · rename_i hc; rw [if_neg hc] at h; exact ocN_mono n L v u _ r h
    · rename_i hk
      rw [if_neg hk] at h
      exact anyM_mono (fun t x r h => ocN_mono n L v t x r h) _ _ _ h
theorem ocN_le {n m : Nat} (hm : n ≤ m) {L : SB} {v : Int} {t : Ty} {V : List Int} {r : Bool × List Int} (h : ocN n L v t V = some r) : ocN m L v t V = some r := by
  induction hm with
  | refl => exact h
  | step _ ih => exact ocN_mono _ _ _ _ _ _ ih
/-- a visited variable that has not been left yet lies above -/
def Above (σ : Ty → Ty) (w : Int) (t : Ty) : Prop := nds (σ t) < nds (σ (.mk 1 w [])) ∨ (nds (σ t) = nds (σ (.mk 1 w [])) ∧ (t.kd = 1 → t.id < w))
def VOk (σ : Ty → Ty) (v : Int) (V : List Int) (t : Ty) : Prop := ∀ w ∈ V, occ v (σ (.mk 1 w [])) = false ∨ Above σ w t
theorem occL_map {v : Int} {σ : Ty → Ty} : ∀ (ts : List Ty), occL v (ts.map σ) = ts.any fun t => occ v (σ t)
  | [] => rfl
  | t :: ts => by simp only [List.map_cons, occL, List.any_cons, occL_map ts]
theorem occ_app {v : Int} {σ : Ty → Ty} {L : SB} (hσ : Sg L σ) {t : Ty} (hk : ¬ t.kd = 1) : occ v (σ t) = t.args.any fun a => occ v (σ a) := by
  rw [hσ.app t hk]
  have : (t.kd == 1) = false := by simpa using hk
  simp only [occ, this, Bool.false_and, Bool.false_or, occL_map]
theorem oc_spec {L : SB} (hw : WF L) {v : Int} (hv : lk L v = none) : ∀ (n : Nat) (t : Ty) (V : List Int) (b : Bool) (V' : List Int), good t → ocN n L v t V = some (b, V') → VOk (sg L) v V t →
    (b = true → occ v (sg L t) = true) ∧ (b = false → occ v (sg L t) = false ∧ ∀ w ∈ V', w ∈ V ∨ occ v (sg L (.mk 1 w [])) = false)
  | 0, t, V, b, V', _, h, _ => by cases h
  | n + 1, t, V, b, V', hg, h, hV => by
    have hσ := wf_Sg hw
    rw [ocN] at h
    cases hk : (t.kd == 1) with
    | false =>
      have hk' : ¬ t.kd = 1 := by simpa using hk
      rw [hk, if_neg (by decide)] at h
      rw [occ_app hσ hk']
      have hsz : ∀ a ∈ t.args, nds (sg L a) < nds (sg L t) := fun a ha => by
        have := nds_memS (σ := sg L) ha
        rw [hσ.app t hk']; simp only [nds]; omega
      have rows : ∀ (ts : List Ty) (V : List Int), (∀ a ∈ ts, a ∈ t.args) → VOk (sg L) v V t → anyM (ocN n L v) ts V = some (b, V') →
          (b = true → (ts.any fun a => occ v (sg L a)) = true) ∧ (b = false → (ts.any fun a => occ v (sg L a)) = false ∧ ∀ w ∈ V', w ∈ V ∨ occ v (sg L (.mk 1 w [])) = false) := by
        intro ts
        induction ts with
        | nil =>
          intro V _ _ h
          simp only [anyM, Option.some.injEq, Prod.mk.injEq] at h
          obtain ⟨rfl, rfl⟩ := h
          exact ⟨fun h => (by cases h), fun _ => ⟨rfl, fun w hw => .inl hw⟩⟩
        | cons a ts ih =>
          intro V hm hV h
          simp only [anyM] at h
          cases he : ocN n L v a V with
          | none => rw [he] at h; cases h
          | some p =>
            obtain ⟨b1, V1⟩ := p
            rw [he] at h
            simp only at h
            have hVa : VOk (sg L) v V a := fun w hwm => by
              rcases hV w hwm with h1 | h1
              · exact .inl h1
              · have := hsz a (hm a (by simp))
                refine .inr (.inl ?_)
                rcases h1 with h1 | h1 <;> omega
            obtain ⟨s1, s2⟩ := oc_spec hw hv n a V b1 V1 (good_mem hg (hm a (by simp))) he hVa
            cases b1 with
            | true =>
              rw [if_pos rfl, Option.some.injEq, Prod.mk.injEq] at h
              obtain ⟨rfl, rfl⟩ := h
              exact ⟨fun _ => by simp [s1 rfl], fun h => by cases h⟩
            | false =>
              rw [if_neg (by decide)] at h
              obtain ⟨q1, q2⟩ := s2 rfl
              obtain ⟨r1, r2⟩ := ih V1 (fun c hc => hm c (by simp [hc])) (fun w hwm => by
                rcases q2 w hwm with h1 | h1
                · exact hV w h1
                · exact .inl h1) h
              refine ⟨fun e => by simp [r1 e], fun e => ?_⟩
              obtain ⟨u1, u2⟩ := r2 e
              refine ⟨by simp only [List.any_cons, q1, u1, Bool.or_false], fun w hwm => ?_⟩
              rcases u2 w hwm with h1 | h1
              · exact q2 w h1
              · exact .inr h1
      exact rows t.args V (fun a ha => ha) hV h
    | true =>
      have hk1 : t.kd = 1 := by simpa using hk
      rw [hk, if_pos rfl] at h
      obtain ⟨e1, e2⟩ := good_var hg hk1
      by_cases hi : t.id = v
      · rw [if_pos (by simp [hi]), Option.some.injEq, Prod.mk.injEq] at h
        obtain ⟨rfl, rfl⟩ := h
        refine ⟨fun _ => ?_, fun h => by cases h⟩
        rw [hσ.free t hg hk1 (by rw [hi]; exact hv), e1, hi]
        simp [occ]
      · rw [if_neg (by simp [hi])] at h
        cases hl : lk L t.id with
        | none =>
          rw [hl] at h
          simp only [Option.some.injEq, Prod.mk.injEq] at h
          obtain ⟨rfl, rfl⟩ := h
          refine ⟨fun h => (by cases h), fun _ => ⟨?_, fun w hw => .inl hw⟩⟩
          rw [hσ.free t hg hk1 hl, e1]
          simp [occ, occL, hi]
        | some u =>
          rw [hl] at h
          simp only at h
          obtain ⟨hu, gu⟩ := hσ.bound t u hk1 hl
          obtain ⟨d1, _, _⟩ := wf_dec hw _ _ hl
          split at h
          · rename_i hc
            simp only [Option.some.injEq, Prod.mk.injEq] at h
            obtain ⟨rfl, rfl⟩ := h
            refine ⟨fun h => (by cases h), fun _ => ⟨?_, fun w hw => .inl hw⟩⟩
            rcases hV t.id (by simpa using hc) with h1 | h1
            · rw [← e1] at h1; exact h1
            · unfold Above at h1; rw [← e1] at h1
              rcases h1 with h1 | h1
              · exact absurd h1 (Nat.lt_irrefl _)
              · exact absurd (h1.2 hk1) (Int.lt_irrefl _)
          · obtain ⟨s1, s2⟩ := oc_spec hw hv n u (V ++ [t.id]) b V' gu h (fun w hwm => by
              rcases List.mem_append.1 hwm with hwm | hwm
              · rcases hV w hwm with h1 | h1
                · exact .inl h1
                · refine .inr ?_
                  unfold Above at h1 ⊢
                  rw [← hu]
                  rcases h1 with h1 | h1
                  · exact .inl h1
                  · refine .inr ⟨h1.1, fun hku => ?_⟩
                    have := d1 hku
                    have := h1.2 hk1
                    omega
              · simp only [List.mem_singleton] at hwm
                subst hwm
                refine .inr (.inr ⟨by rw [← hu, ← e1], fun hku => d1 hku⟩))
            rw [← hu] at s1 s2
            refine ⟨s1, fun e => ?_⟩
            obtain ⟨q1, q2⟩ := s2 e
            refine ⟨q1, fun w hwm => ?_⟩
            rcases q2 w hwm with h1 | h1
            · rcases List.mem_append.1 h1 with h1 | h1
              · exact .inl h1
              · simp only [List.mem_singleton] at h1
                subst h1
                rw [← e1]
                exact .inr q1
            · exact .inr h1
theorem anyM_total {L : SB} {v : Int} : ∀ (ts : List Ty), (∀ a ∈ ts, ∀ V, ∃ n r, ocN n L v a V = some r) → ∀ V, ∃ n r, anyM (ocN n L v) ts V = some r
  | [], _, V => ⟨0, (false, V), rfl⟩
  | a :: ts, h, V => by
    obtain ⟨n1, ⟨b, V1⟩, h1⟩ := h a (by simp) V
    obtain ⟨n2, r, h2⟩ := anyM_total ts (fun c hc => h c (by simp [hc])) V1
    refine ⟨max n1 n2, if b = true then (true, V1) else r, ?_⟩
    simp only [anyM, ocN_le (Nat.le_max_left n1 n2) h1]
    split
    · rfl
    · exact anyM_mono (fun t x r h => ocN_le (Nat.le_max_right n1 n2) h) _ _ _ h2
theorem oc_total {L : SB} (hw : WF L) {v : Int} : ∀ (N : Nat) (k : Nat) (t : Ty), good t → nds (sg L t) ≤ N → (t.kd = 1 → t.id.toNat < k) → ∀ V, ∃ n r, ocN n L v t V = some r := by
  intro N
  have hσ := wf_Sg hw
  induction N with
  | zero => intro k t _ h; have := nds_pos (sg L t); omega
  | succ N ihN =>
    intro k
    induction k with
    | zero =>
      intro t hg hN hk V
      have hk' : ¬ t.kd = 1 := fun e => absurd (hk e) (by omega)
      obtain ⟨n, r, h⟩ := anyM_total (L := L) (v := v) t.args (fun a ha V => ihN (a.id.toNat + 1) a (good_mem hg ha) (by
        have := nds_memS (σ := sg L) ha
        rw [hσ.app t hk'] at hN; simp only [nds] at hN; omega) (fun _ => by omega) V) V
      exact ⟨n + 1, r, by rw [ocN, if_neg (by simpa using hk')]; exact h⟩
    | succ k ihk =>
      intro t hg hN hk V
      by_cases hk1 : t.kd = 1
      · by_cases hi : t.id = v
        · exact ⟨1, (true, V), by rw [ocN, if_pos (by simpa using hk1), if_pos (by simp [hi])]⟩
        · cases hl : lk L t.id with
          | none => exact ⟨1, (false, V), by rw [ocN, if_pos (by simpa using hk1), if_neg (by simp [hi]), hl]⟩
          | some u =>
            obtain ⟨hu, gu⟩ := hσ.bound t u hk1 hl
            obtain ⟨d1, _, _⟩ := wf_dec hw _ _ hl
            have h0 := (good_var hg hk1).2
            obtain ⟨n, r, h⟩ := ihk u gu (by rw [← hu]; exact hN) (fun hku => by
              have := d1 hku
              have := (good_var gu hku).2
              have := hk hk1
              omega) (V ++ [t.id])
            refine ⟨n + 1, if V.contains t.id then (false, V) else r, ?_⟩
            rw [ocN, if_pos (by simpa using hk1), if_neg (by simp [hi]), hl]
            simp only
            split
            · rfl
            · exact h
      · exact ihk t hg hN (fun e => absurd e hk1) V
theorem bnd_total {L : SB} (hw : WF L) {v : Int} {t : Ty} (hg : good t) : ∃ b L', Bnd L v t b L' := by
  obtain ⟨n, ⟨b, V⟩, h⟩ := oc_total hw (v := v) (nds (sg L t)) (t.id.toNat + 1) t hg (Nat.le_refl _) (fun _ => by omega) []
  cases b with
  | true => exact ⟨false, L, n, by rw [bindN, h]⟩
  | false => exact ⟨true, insB L v t, n, by rw [bindN, h]⟩
theorem bnd_spec {L : SB} (hw : WF L) {v : Int} (hv : lk L v = none) {t : Ty} (hg : good t) {b : Bool} {L' : SB} (h : Bnd L v t b L') : (b = false → L' = L ∧ occ v (sg L t) = true) ∧ (b = true → L' = L ++ [(v, t)] ∧ occ v (sg L t) = false) := by
  obtain ⟨n, h⟩ := h
  rw [bindN] at h
  split at h
  · cases h
  · rename_i V ho
    simp only [Option.some.injEq, Prod.mk.injEq] at h
    obtain ⟨rfl, rfl⟩ := h
    obtain ⟨s1, _⟩ := oc_spec hw hv n t [] _ _ hg ho (fun w hw => by cases hw)
    exact ⟨fun _ => ⟨rfl, s1 rfl⟩, fun h => by cases h⟩
  · rename_i V ho
    simp only [Option.some.injEq, Prod.mk.injEq] at h
    obtain ⟨rfl, rfl⟩ := h
    obtain ⟨_, s2⟩ := oc_spec hw hv n t [] _ _ hg ho (fun w hw => by cases hw)
    exact ⟨fun h => (by cases h), fun _ => ⟨insB_new hv, (s2 rfl).1⟩⟩
end Go.Proofs.Ytiediojibljpiaa
