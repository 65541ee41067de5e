/- A call that may write the memory that it is lent, and hand back a block more. -/
import Derived.Test.YtgphapkpoamcgaaBb21
set_option linter.unusedVariables false
set_option linter.unusedSimpArgs false
namespace Go.Ab
open Go.RowKit
/-- the first n blocks under their machine names -/
def tagN (m : Nat → Nat × Nat × Nat) (n : Nat) : Nat → Hp → Hp
  | _, [] => []
  | i, k :: H => (k.map fun k => { k with tag := if i < n then some (m i) else none }) :: tagN m n (i + 1) H
theorem tagN_length (m : Nat → Nat × Nat × Nat) (n : Nat) : ∀ (H : Hp) (i : Nat), (tagN m n i H).length = H.length
  | [], _ => rfl
  | k :: H, i => by simp [tagN, tagN_length m n H]
theorem hget_tagN (m : Nat → Nat × Nat × Nat) (n : Nat) : ∀ (H : Hp) (i b : Nat), hget (tagN m n i H) b = (hget H b).map fun k => { k with tag := if i + b < n then some (m (i + b)) else none }
  | [], i, b => by simp [tagN, hget]
  | k :: H, i, b => by
    cases b with
    | zero => cases k <;> simp [tagN, hget]
    | succ b =>
      have := hget_tagN m n H (i + 1) b
      simp only [hget] at this ⊢
      simp only [tagN, List.getElem?_cons_succ]
      rw [this, show i + 1 + b = i + (b + 1) by omega]
/-- the blocks that live -/
def LV (H : Hp) : Nat → Prop := fun b => ∃ k, hget H b = some k
theorem LV_lt {H : Hp} {b : Nat} (h : LV H b) : lt H b := by
  obtain ⟨k, e⟩ := h
  unfold hget at e; unfold lt
  rcases Nat.lt_or_ge b H.length with hb | hb
  · exact hb
  · rw [List.getElem?_eq_none hb] at e; cases e
/-- blocks that are well formed by themselves -/
structure HpOk (H : Hp) : Prop where
  tag : ∀ b k, hget H b = some k → k.tag = none
  bd : ∀ b k, hget H b = some k → ∀ cs ∈ k.xs, V.bdL (LV H) cs
def MCall (P : Program) (f : FuncId) (vs : List V) (H0 : Hp) (v : V) (H1 : Hp) : Prop :=
  Enters P f ∧ H0.length ≤ H1.length ∧ H1.length ≤ H0.length + 1 ∧ (∀ b, b < H0.length → LV H0 b) ∧ HpOk H0 ∧ HpOk H1 ∧ V.bdL (LV H0) vs ∧ v.bd (LV H1) ∧
  ∀ G w us, Rel (lt H0) G (hget H0) w → RL G vs us → Calls P f us.toArray w fun e w' =>
    ∃ u G', e = .returned u ∧ Gh.le (lt H0) G G' ∧ Rel (lt H1) G' (hget H1) w' ∧ Tr G (hget H0) w G' (hget H1) w' ∧ R G' v u
theorem Rel.le {S : Nat → Prop} {G : Gh} {fr : Fr} {H : Hp} {w : World} (rel : Rel S G (hget H) w) {ρ : Nat → Nat} {fr' : Fr} {H' : Hp} (h : Le ρ fr H fr' H') :
    Rel (Ab.lt H') (G.ren ρ) (hget H') w ∧ Tr G (hget H) w (G.ren ρ) (hget H') w := by
  have hlive : ∀ b k, hget H' b = some k → Ab.lt H' b := fun b k e => LV_lt ⟨k, e⟩
  refine ⟨⟨rel.imm, fun b k e => ?_, fun b b' k k' e e' eφ => ?_, fun b k e hro => ?_, fun b k e => hlive b k e, fun b k e => h.hbd b k e⟩,
    ⟨rfl, rfl, rfl, Nat.le_refl _, Imm.le.refl _, fun _ _ _ => rfl, fun b k e hro _ => ?_, fun b k e _ => ?_, fun a v e _ => .inl e⟩⟩
  · obtain ⟨k', e0, kl⟩ := h.hp b k e
    obtain ⟨arr, e1, rr⟩ := rel.blk (ρ b) _ e0
    have hl : k'.xs.length = k.xs.length := by rw [kl.xs, List.length_map]
    refine ⟨arr, by rw [← kl.ty]; exact e1, ⟨kl.sz.symm.trans rr.sz, rr.size, by rw [← hl, ← kl.sz]; exact rr.fits, fun i cs hi => ?_, fun i j cs c hi hj => ?_, fun hro i hi => rr.ro (kl.ro.trans hro) i (by rw [hl, kl.sz]; exact hi), fun m hm => rr.tag m (kl.tagged hm)⟩⟩
    · have := rr.len i (V.renL ρ cs) (by simp only [kl.xs, List.getElem?_map, hi, Option.map_some])
      rw [renL_len] at this; exact this.trans kl.sz
    · obtain ⟨u, q1, q2, q3⟩ := rr.cell i j (V.renL ρ cs) (V.ren ρ c) (by simp only [kl.xs, List.getElem?_map, hi, Option.map_some]) (by rw [renL_get, hj]; rfl)
      exact ⟨u, by rw [← kl.sz]; exact q1, q2, (R_ren c u).2 q3⟩
  · obtain ⟨k1, e0, _⟩ := h.hp b k e
    obtain ⟨k1', e0', _⟩ := h.hp b' k' e'
    exact h.inj b b' k k' e e' (rel.inj _ _ _ _ e0 e0' eφ)
  · obtain ⟨k1, e0, kl⟩ := h.hp b k e
    exact rel.sep (ρ b) _ e0 (kl.ro.trans hro)
  · obtain ⟨k1, e0, kl⟩ := h.hp b k e
    exact ⟨ρ b, _, e0, kl.ro.trans hro, rfl⟩
  · obtain ⟨k1, e0, _⟩ := h.hp b k e
    exact ⟨ρ b, _, e0, rfl⟩
/-! ### how a function is shown to keep such a contract -/
def oneW (vs : List V) : V := match vs with
  | [v] => v
  | vs => .tup vs
theorem RL_one {G : Gh} {vs : List V} {us : List Value} (h : RL G vs us) : R G (oneW vs) (oneV us) := by
  match vs, us, h with
  | [], us, h => simp only [RL] at h; subst h; simp only [oneW, R]; exact ⟨#[], rfl, by simp [RL]⟩
  | [p], us, h =>
    simp only [RL] at h
    obtain ⟨u, us', rfl, h1, rfl⟩ := h
    exact h1
  | p :: q :: ps, us, h =>
    have h' := h
    simp only [RL] at h
    obtain ⟨u, us', rfl, h1, v, us'', rfl, h2, h3⟩ := h
    simp only [oneW, R]
    exact ⟨_, rfl, h'⟩
/-- what stands where such a function returns -/
def retM (rs : List RV) (v : V) (n : Nat) (H1 : Hp) (m : Nat → Nat × Nat × Nat) (e : Exit) (fr : Fr) (H : Hp) : Prop :=
  match e with
  | .normal => ∃ vs, resVs fr H rs = some vs ∧ ∃ ρ, Le ρ [(0, oneW vs)] H [(0, v)] (tagN m n 0 H1)
  | .ret => ∃ vs, resVs fr H rs = some vs ∧ ∃ ρ, Le ρ [(0, oneW vs)] H [(0, v)] (tagN m n 0 H1)
  | _ => False
def argFrV : Nat → List V → Fr
  | _, [] => []
  | i, p :: ps => (i, p) :: argFrV (i + 1) ps
theorem argFrV_get : ∀ (ps : List V) (i t : Nat), get (argFrV i ps) t = .junk ∨ ∃ p, i ≤ t ∧ ps[t - i]? = some p ∧ get (argFrV i ps) t = p
  | [], i, t => .inl rfl
  | p :: ps, i, t => by
    simp only [argFrV, get]
    split
    · rename_i h; subst h; exact .inr ⟨p, Nat.le_refl _, by simp, rfl⟩
    · rename_i h
      rcases argFrV_get ps (i + 1) t with h1 | ⟨q, h1, h2, h3⟩
      · exact .inl h1
      · refine .inr ⟨q, by omega, ?_, h3⟩
        rw [show t - i = (t - (i + 1)) + 1 by omega]; simpa using h2
theorem V.bdL_mem {S : Nat → Prop} : ∀ {cs : List V} {c : V}, V.bdL S cs → c ∈ cs → c.bd S := fun h1 h2 => bdL_iff.1 h1 _ h2
theorem MCall.intro {P : Program} {f : FuncId} {N : Nat} {ac : AC} {rs : List RV} (hf : Fun P f N ac rs) {vs : List V} {v : V} {H0 H1 : Hp} (hN : vs.length ≤ N) (h1 : H0.length ≤ H1.length) (h2 : H1.length ≤ H0.length + 1) (h3 : ∀ b, b < H0.length → LV H0 b) (h4 : HpOk H0) (h5 : HpOk H1)
    (h6 : V.bdL (LV H0) vs) (h7 : v.bd (LV H1)) (h : ∀ m, awp P ac (retM rs v H0.length H1 m) (argFrV 0 vs) (tagN m H0.length 0 H0)) : MCall P f vs H0 v H1 := by
  obtain ⟨fn, c, e1, e2, e3, e4, e5, e6⟩ := hf.ex
  refine ⟨⟨fn, e1, by rw [e2]; rfl, e3⟩, h1, h2, h3, h4, h5, h6, h7, fun G w us rel hus => ?_⟩
  refine calls_of_wp e1 e2 ?_
  have hlen : us.length = vs.length := RL_length hus
  let m : Nat → Nat × Nat × Nat := fun b => (G.φ b, G.κ b, G.σ b)
  have hW := awp_sound hf.hm c ac e5 _ _ _ (h m)
  have un : ∀ b k, hget (tagN m H0.length 0 H0) b = some k → ∃ k0, hget H0 b = some k0 ∧ k = { k0 with tag := some (m b) } := fun b k e => by
    rw [hget_tagN, Nat.zero_add] at e
    obtain ⟨k0, e0, rfl⟩ := Option.map_eq_some_iff.1 e
    exact ⟨k0, e0, by rw [if_pos (show b < H0.length from LV_lt ⟨k0, e0⟩)]⟩
  have rel0 : Rel (lt (tagN m H0.length 0 H0)) G (hget (tagN m H0.length 0 H0)) w := by
    have hl : lt (tagN m H0.length 0 H0) = lt H0 := by unfold lt; rw [tagN_length]
    rw [hl]
    refine ⟨rel.imm, fun b k e => ?_, fun b b' k k' e e' => ?_, fun b k e => ?_, fun b k e => ?_, fun b k e => ?_⟩
    · obtain ⟨k0, e0, rfl⟩ := un b k e
      obtain ⟨arr, e7, rr⟩ := rel.blk b k0 e0
      exact ⟨arr, e7, rr.sz, rr.size, rr.fits, rr.len, rr.cell, rr.ro, fun t ht => by cases ht; rfl⟩
    · obtain ⟨k0, e0, rfl⟩ := un b k e
      obtain ⟨k0', e0', rfl⟩ := un b' k' e'
      exact rel.inj b b' k0 k0' e0 e0'
    · obtain ⟨k0, e0, rfl⟩ := un b k e
      exact rel.sep b k0 e0
    · obtain ⟨k0, e0, rfl⟩ := un b k e
      exact rel.live b k0 e0
    · obtain ⟨k0, e0, rfl⟩ := un b k e
      exact rel.bd b k0 e0
  have st : ASt N G (argFrV 0 vs) (tagN m H0.length 0 H0) { tmps := us.toArray ++ Array.replicate (fn.ntmps - us.toArray.size) undef, defers := [] } w := by
    refine ⟨rel0, fun t => ?_, fun t => ?_, ?_, rfl⟩
    · rcases argFrV_get vs 0 t with h | ⟨p, _, hp, h⟩
      · rw [h]; simp [R]
      · rw [h]
        obtain ⟨u, e1, e2⟩ := RL_get hus t p (by simpa using hp)
        have htl : t < us.length := (List.getElem?_eq_some_iff.1 e1).1
        have : (us.toArray ++ Array.replicate (fn.ntmps - us.toArray.size) undef).getD t undef = u := by
          rw [Array.getD_eq_getD_getElem?, Array.getElem?_append_left (by simpa using htl)]
          simp [e1]
        rw [this]; exact e2
    · rcases argFrV_get vs 0 t with h | ⟨p, _, hp, h⟩
      · rw [h]; simp [V.bd]
      · rw [h]
        refine V.bd_mono (fun b hb => ?_) _ (V.bdL_mem h6 (List.mem_of_getElem? hp))
        unfold lt; rw [tagN_length]; exact LV_lt hb
    · simp; omega
  refine wp_mono (hW G _ w st) fun e a' w' ⟨G', fr', H', hq, st', tr'⟩ => ?_
  have fin : (∃ ws, resVs fr' H' rs = some ws ∧ ∃ ρ, Le ρ [(0, oneW ws)] H' [(0, v)] (tagN m H0.length 0 H1)) → a'.defers = [] ∧ ∃ v', (results fn a'.tmps).run P w' = .ok v' w' ∧
      ∃ u G', Ending.returned v' = .returned u ∧ Gh.le (lt H0) G G' ∧ Rel (lt H1) G' (hget H1) w' ∧ Tr G (hget H0) w G' (hget H1) w' ∧ R G' v u := by
    rintro ⟨ws, hws, ρ, hle⟩
    obtain ⟨us', hr, hR⟩ := results_run st' fn.results.toList rs ws e6 hws
    obtain ⟨rel2, tr2⟩ := st'.rel.le hle
    have tr := tr'.trans tr2
    let G3 : Gh := { φ := fun b => if b < H0.length then G.φ b else (G'.ren ρ).φ b, κ := fun b => if b < H0.length then G.κ b else (G'.ren ρ).κ b, σ := fun b => if b < H0.length then G.σ b else (G'.ren ρ).σ b, I := G'.I }
    have get1 : ∀ b k, hget H1 b = some k → hget (tagN m H0.length 0 H1) b = some { k with tag := if b < H0.length then some (m b) else none } := fun b k e => by
      rw [hget_tagN, e, Nat.zero_add]; rfl
    have same : ∀ b, LV H1 b → G3.φ b = (G'.ren ρ).φ b ∧ G3.κ b = (G'.ren ρ).κ b ∧ G3.σ b = (G'.ren ρ).σ b := fun b ⟨k, e⟩ => by
      by_cases hb : b < H0.length
      · obtain ⟨arr, _, rr⟩ := rel2.blk b _ (get1 b k e)
        have := rr.tag (m b) (by simp [hb])
        simp only [m, Prod.mk.injEq] at this
        simp only [G3, if_pos hb]; exact this
      · simp only [G3, if_neg hb, and_self]
    have hle3 : Gh.le (LV H1) (G'.ren ρ) G3 := ⟨fun b hb => (same b hb).1, fun b hb => (same b hb).2.1, fun b hb => (same b hb).2.2, Imm.le.refl _⟩
    have hl1 : lt (tagN m H0.length 0 H1) = lt H1 := by unfold lt; rw [tagN_length]
    refine ⟨st'.defers, _, results_run' hr, _, G3, rfl, ⟨fun b hb => ?_, fun b hb => ?_, fun b hb => ?_, tr.I⟩, ⟨rel2.imm, fun b k e => ?_, fun b b' k k' e e' eφ => ?_, fun b k e hro => ?_, fun b k e => LV_lt ⟨k, e⟩, fun b k e => ?_⟩,
      ⟨tr.os, tr.tape, tr.output, tr.size, tr.I, fun k hk hn => tr.old k hk fun b blk e hro => ?_, fun b k e hro hlt => ?_, fun b k e hlt => ?_, fun a x e hlt => ?_⟩, ?_⟩
    · simp only [G3]; rw [if_pos (show b < H0.length from hb)]
    · simp only [G3]; rw [if_pos (show b < H0.length from hb)]
    · simp only [G3]; rw [if_pos (show b < H0.length from hb)]
    · obtain ⟨arr, e7, rr⟩ := rel2.blk b _ (get1 b k e)
      obtain ⟨s1, s2, s3⟩ := same b ⟨k, e⟩
      refine ⟨arr, by rw [s1]; exact e7, by rw [s3]; exact rr.sz, by rw [s2]; exact rr.size, rr.fits, rr.len, fun i j cs c hi hj => ?_, fun hro i hi => ?_, fun t ht => ?_⟩
      · obtain ⟨u, q1, q2, q3⟩ := rr.cell i j cs c hi hj
        exact ⟨u, q1, q2, R_mono hle3 c u (V.bdL_mem (h5.bd b k e cs (List.mem_of_getElem? hi)) (List.mem_of_getElem? hj)) q3⟩
      · rw [s1]; exact rr.ro hro i hi
      · rw [h5.tag b k e] at ht; cases ht
    · rw [(same b ⟨k, e⟩).1, (same b' ⟨k', e'⟩).1] at eφ
      exact rel2.inj b b' _ _ (get1 b k e) (get1 b' k' e') eφ
    · rw [(same b ⟨k, e⟩).1]; exact rel2.sep b _ (get1 b k e) hro
    · have := rel2.bd b _ (get1 b k e)
      rw [hl1] at this; exact this
    · obtain ⟨k0, e0, rfl⟩ := un b blk e
      exact hn b k0 e0 hro
    · rw [(same b ⟨k, e⟩).1] at hlt ⊢
      obtain ⟨b0, k0, f0, f1, f2⟩ := tr.muts b _ (get1 b k e) hro hlt
      obtain ⟨k1, g0, rfl⟩ := un b0 k0 f0
      exact ⟨b0, k1, g0, f1, f2⟩
    · rw [(same b ⟨k, e⟩).1] at hlt ⊢
      obtain ⟨b0, k0, f0, f2⟩ := tr.lives b _ (get1 b k e) hlt
      obtain ⟨k1, g0, rfl⟩ := un b0 k0 f0
      exact ⟨b0, k1, g0, f2⟩
    · rcases tr.inew a x e hlt with f | ⟨b0, k0, f0, f1⟩
      · exact .inl f
      · obtain ⟨k1, g0, rfl⟩ := un b0 k0 f0
        exact .inr ⟨b0, k1, g0, f1⟩
    · have := hle.fr 0
      simp only [get, if_true] at this
      rcases this with e | e
      · rw [e]; simp [R]
      · exact R_mono hle3 _ _ h7 ((R_ren _ _).2 (by rw [e]; exact RL_one hR))
  cases e with
  | normal => exact fin hq
  | ret => exact fin hq
  | _ => exact hq.elim
end Go.Ab
