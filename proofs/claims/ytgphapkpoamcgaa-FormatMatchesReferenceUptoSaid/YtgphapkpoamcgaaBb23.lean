/- Calling a function that writes what it is lent. -/
import Derived.Test.YtgphapkpoamcgaaBb22
set_option linter.unusedVariables false
set_option linter.unusedSimpArgs false
namespace Go.Ab
open Go.RowKit
mutual
theorem V.bd_ren {S T : Nat → Prop} {ρ : Nat → Nat} (h : ∀ b, T b → S (ρ b)) : ∀ (c : V), c.bd T → (c.ren ρ).bd S
  | .junk, _ => by simp [V.ren, V.bd]
  | .pv p, _ => by simp [V.ren, V.bd]
  | .ptr b i off, hb => by simp only [V.ren, V.bd] at hb ⊢; exact h b hb
  | .row b n full, hb => by simp only [V.ren, V.bd] at hb ⊢; exact h b hb
  | .agg cs, hb => by simp only [V.ren, V.bd] at hb ⊢; exact V.bdL_ren h cs hb
  | .tup cs, hb => by simp only [V.ren, V.bd] at hb ⊢; exact V.bdL_ren h cs hb
  | .fn f cs, hb => by simp only [V.ren, V.bd] at hb ⊢; exact V.bdL_ren h cs hb
theorem V.bdL_ren {S T : Nat → Prop} {ρ : Nat → Nat} (h : ∀ b, T b → S (ρ b)) : ∀ (cs : List V), V.bdL T cs → V.bdL S (V.renL ρ cs)
  | [], _ => by simp [V.renL, V.bdL]
  | c :: cs, hb => by simp only [V.renL, V.bdL] at hb ⊢; exact ⟨V.bd_ren h c hb.1, V.bdL_ren h cs hb.2⟩
end
theorem updD_notin : ∀ (δ : List (Nat × Option Blk)) (h : HF) (b : Nat), (∀ k, (b, k) ∉ δ) → updD h δ b = h b
  | [], h, b, _ => rfl
  | (c, k) :: δ, h, b, hn => by
    rw [updD, updD_notin δ _ b fun k' hk => hn k' (List.mem_cons_of_mem _ hk), upd_other]
    rintro rfl; exact hn k (by simp)
theorem updD_in : ∀ (δ : List (Nat × Option Blk)) (h : HF) (b : Nat) (k : Option Blk), (δ.map (·.1)).Nodup → (b, k) ∈ δ → updD h δ b = k
  | [], h, b, k, _, hm => by cases hm
  | (c, k') :: δ, h, b, k, hn, hm => by
    simp only [List.map_cons, List.nodup_cons] at hn
    rw [updD]
    rcases List.mem_cons.1 hm with e | hm
    · simp only [Prod.mk.injEq] at e
      obtain ⟨rfl, rfl⟩ := e
      rw [updD_notin δ _ _ fun k' hk => hn.1 (List.mem_map.2 ⟨_, hk, rfl⟩), upd_same]
    · exact updD_in δ _ b k hn.2 hm
/-- a local block's name with the caller -/
def rho (ρ : List Nat) (nb : Nat) (i : Nat) : Nat := ρ.getD i nb
def outB (h : HF) (ρ : List Nat) (nb : Nat) (b : Nat) (k : Option Blk) : Option Blk := k.map fun k => { k with xs := k.xs.map (V.renL (rho ρ nb)), tag := (h b).bind fun x => x.tag }
def outD (h : HF) (ρ : List Nat) (nb : Nat) : List Nat → Hp → List (Nat × Option Blk)
  | b :: bs, k :: ks => (b, outB h ρ nb b k) :: outD h ρ nb bs ks
  | [], [k] => [(nb, k.map fun k => { k with xs := k.xs.map (V.renL (rho ρ nb)), tag := none })]
  | _, _ => []
/-- what the callee sees: the caller's value as it is, or a pure tree where it is one -/
inductive VM (ρ : Nat → Nat) : List V → List V → Prop
  | nil : VM ρ [] []
  | eq (v : V) (vs ws : List V) : VM ρ vs ws → VM ρ (v.ren ρ :: vs) (v :: ws)
  | pv (v : V) (p : PV) (vs ws : List V) : Vw (fun _ => none) [] v p → VM ρ vs ws → VM ρ (v :: vs) (.pv p :: ws)
theorem VM_RL {S G h w} (r : Rel S G h w) {ρ : Nat → Nat} : ∀ {vs ws : List V} {us : List Value}, VM ρ vs ws → RL G vs us → RL (G.ren ρ) ws us
  | _, _, us, .nil, hr => by simpa [RL] using hr
  | _, _, us, .eq v vs ws hm, hr => by
    simp only [RL] at hr ⊢
    obtain ⟨u, us', rfl, h1, h2⟩ := hr
    exact ⟨u, us', rfl, (R_ren _ _).2 h1, VM_RL r hm h2⟩
  | _, _, us, .pv v p vs ws hv hm, hr => by
    simp only [RL] at hr ⊢
    obtain ⟨u, us', rfl, h1, h2⟩ := hr
    refine ⟨u, us', rfl, ?_, VM_RL r hm h2⟩
    have hv' : Vw h [] v p := Vw_congr (h := fun _ => none) (fun b hb => by cases hb) hv
    have := Vw_R r hv' h1
    simp only [R]
    refine RP_mono (fun a x e => ?_) _ _ this
    rcases lend_spec e with e | ⟨b, k, hb, _⟩
    · exact e
    · cases hb
/-- cells that say less -/
def Wk (a b : V) : Prop := ∀ G u, R G a u → R G b u
def WkX (xs ys : List (List V)) : Prop := xs.length = ys.length ∧ ∀ (i : Nat) cs ds, xs[i]? = some cs → ys[i]? = some ds → cs.length = ds.length ∧ ∀ (j : Nat) c d, cs[j]? = some c → ds[j]? = some d → Wk c d
theorem WkX.refl (xs : List (List V)) : WkX xs xs := ⟨rfl, fun i cs ds h1 h2 => by
  rw [h1] at h2; cases h2
  exact ⟨rfl, fun j c d h3 h4 => by rw [h3] at h4; cases h4; exact fun _ _ h => h⟩⟩
structure BlkWk (ρ : Nat → Nat) (k' k : Blk) : Prop where
  ro : k'.ro = k.ro
  ty : k'.ty = k.ty
  sz : k'.sz = k.sz
  xs : WkX k'.xs (k.xs.map (V.renL ρ))
theorem BlkWk.of {ρ : Nat → Nat} {k : Blk} {xs : List (List V)} {tg : Option (Nat × Nat × Nat)} (h : WkX xs (k.xs.map (V.renL ρ))) : BlkWk ρ { k with xs := xs, tag := tg } k := ⟨rfl, rfl, rfl, h⟩
theorem CallOk.heap {P : Program} {nb : Nat} {vs vs0 : List V} {h : HF} {f : FuncId} {H0 H1 : Hp} {v : V} (ρ : List Nat) (hm : MCall P f vs0 H0 v H1) (hl : ρ.length = H0.length) (hnd : ρ.Nodup) (hnb : nb ∉ ρ)
    (hvs : VM (rho ρ nb) vs vs0) (hh : ∀ i k, hget H0 i = some k → ∃ k', h (rho ρ nb i) = some k' ∧ BlkWk (rho ρ nb) k' k) :
    CallOk P nb (.pv (.fn f [])) vs h (v.ren (rho ρ nb)) ρ (outD h ρ nb ρ H1) := by
  obtain ⟨hent, l1, l2, l3, ok0, ok1, bvs, bv, hcall⟩ := hm
  intro S G h2 w u us rel hrd hn hru hrs hbf hbs
  simp only [R, RP] at hru
  obtain ⟨cs, rfl, hcs⟩ := hru
  simp only [RPL] at hcs
  have hcs0 : cs = #[] := by cases cs; simp_all
  subst hcs0
  refine ⟨f, #[], rfl, hent, ?_⟩
  -- names
  have rlt : ∀ i, i < ρ.length → rho ρ nb i ∈ ρ := fun i hi => by
    unfold rho; rw [List.getD_eq_getElem?_getD, List.getElem?_eq_getElem hi]; exact List.getElem_mem hi
  have rge : ∀ i, ¬ i < ρ.length → rho ρ nb i = nb := fun i hi => by
    unfold rho; rw [List.getD_eq_getElem?_getD, List.getElem?_eq_none (by omega)]; rfl
  have rinj : ∀ i j, i < ρ.length → j < ρ.length → rho ρ nb i = rho ρ nb j → i = j := fun i j hi hj e => by
    unfold rho at e
    rw [List.getD_eq_getElem?_getD, List.getD_eq_getElem?_getD, List.getElem?_eq_getElem hi, List.getElem?_eq_getElem hj] at e
    exact (List.getElem_inj hnd).1 e
  have rmem : ∀ b, b ∈ ρ → ∃ i, i < ρ.length ∧ rho ρ nb i = b := fun b hb => by
    obtain ⟨i, hi, e⟩ := List.getElem_of_mem hb
    exact ⟨i, hi, by unfold rho; rw [List.getD_eq_getElem?_getD, List.getElem?_eq_getElem hi]; exact e⟩
  have lt0 : ∀ i k, hget H0 i = some k → i < ρ.length := fun i k e => by rw [hl]; exact LV_lt ⟨k, e⟩
  have h20 : ∀ i k, hget H0 i = some k → ∃ k', h2 (rho ρ nb i) = some k' ∧ BlkWk (rho ρ nb) k' k := fun i k e => by
    rw [hrd _ (rlt i (lt0 i k e))]; exact hh i k e
  have hin : ∀ i, i < ρ.length → ∃ k, h2 (rho ρ nb i) = some k := fun i hi => by
    obtain ⟨k, e⟩ := l3 i (by omega)
    obtain ⟨k', e', _⟩ := h20 i k e
    exact ⟨_, e'⟩
  -- the callee's memory
  let Gl := G.ren (rho ρ nb)
  have rel0 : Rel (lt H0) Gl (hget H0) w := by
    refine ⟨rel.imm, fun b k e => ?_, fun b b' k k' e e' eφ => ?_, fun b k e hro => ?_, fun b k e => LV_lt ⟨k, e⟩, fun b k e cs hcs => V.bdL_mono (fun _ h => LV_lt h) cs (ok0.bd b k e cs hcs)⟩
    · obtain ⟨k', e0, kw⟩ := h20 b k e
      obtain ⟨arr, e1, rr⟩ := rel.blk _ _ e0
      have hlx : k'.xs.length = k.xs.length := by have := kw.xs.1; simpa using this
      have ex : ∀ (i : Nat) cs, k.xs[i]? = some cs → ∃ cs', k'.xs[i]? = some cs' ∧ cs'.length = cs.length ∧ ∀ (j : Nat) c, cs[j]? = some c → ∃ c', cs'[j]? = some c' ∧ Wk c' (c.ren (rho ρ nb)) := fun i cs hi => by
        have hil : i < k'.xs.length := by rw [hlx]; exact (List.getElem?_eq_some_iff.1 hi).1
        obtain ⟨w1, w2⟩ := kw.xs.2 i k'.xs[i] (V.renL (rho ρ nb) cs) (List.getElem?_eq_getElem hil) (by simp only [List.getElem?_map, hi, Option.map_some])
        rw [renL_len] at w1
        refine ⟨_, List.getElem?_eq_getElem hil, w1, fun j c hj => ?_⟩
        have hjl : j < k'.xs[i].length := by rw [w1]; exact (List.getElem?_eq_some_iff.1 hj).1
        exact ⟨_, List.getElem?_eq_getElem hjl, w2 j _ _ (List.getElem?_eq_getElem hjl) (by rw [renL_get, hj]; rfl)⟩
      refine ⟨arr, by rw [← kw.ty]; exact e1, ⟨kw.sz.symm.trans rr.sz, rr.size, by rw [← hlx, ← kw.sz]; exact rr.fits, fun i cs hi => ?_, fun i j cs c hi hj => ?_, fun hro i hi => rr.ro (kw.ro.trans hro) i (by rw [hlx, kw.sz]; exact hi), fun t ht => by rw [ok0.tag b k e] at ht; cases ht⟩⟩
      · obtain ⟨cs', g1, g2, _⟩ := ex i cs hi
        rw [← g2, rr.len i cs' g1, kw.sz]
      · obtain ⟨cs', g1, g2, g3⟩ := ex i cs hi
        obtain ⟨c', g4, g5⟩ := g3 j c hj
        obtain ⟨u, q1, q2, q3⟩ := rr.cell i j cs' c' g1 g4
        exact ⟨u, by rw [← kw.sz]; exact q1, q2, (R_ren c u).2 (g5 _ _ q3)⟩
    · obtain ⟨k1, e0, _⟩ := h20 b k e
      obtain ⟨k1', e0', _⟩ := h20 b' k' e'
      exact rinj b b' (lt0 b k e) (lt0 b' k' e') (rel.inj _ _ _ _ e0 e0' eφ)
    · obtain ⟨k1, e0, kw⟩ := h20 b k e
      exact rel.sep _ _ e0 (kw.ro.trans hro)
  have hus : RL Gl vs0 us := VM_RL rel hvs hrs
  have := hcall Gl w us rel0 hus
  rw [show us.toArray ++ #[] = us.toArray by simp]
  refine this.mono fun e w' ⟨u', G1, he, hle1, rel1, tr1, hR⟩ => ?_
  -- the blocks that turn
  have keys : ∀ (bs : List Nat) (ks : Hp), bs.length ≤ ks.length → ks.length ≤ bs.length + 1 → (outD h ρ nb bs ks).map (·.1) = bs ++ (if ks.length = bs.length + 1 then [nb] else []) := by
    intro bs
    induction bs with
    | nil =>
      intro ks h1 h2
      match ks, h2 with
      | [], _ => rfl
      | [k], _ => rfl
      | k :: k' :: ks, h2 => simp at h2
    | cons b bs ih =>
      intro ks h1 h2
      cases ks with
      | nil => simp at h1
      | cons k ks => simp only [outD, List.map_cons, ih ks (by simpa using h1) (by simpa using h2), List.length_cons, Nat.add_right_cancel_iff, List.cons_append]
  have nodup : ((outD h ρ nb ρ H1).map (·.1)).Nodup := by
    rw [keys ρ H1 (by omega) (by omega)]
    split
    · rw [List.nodup_append]
      exact ⟨hnd, by simp, fun a ha b hb e => by simp at hb; subst hb; subst e; exact hnb ha⟩
    · simpa using hnd
  have ent : ∀ (bs : List Nat) (ks : Hp), bs.length ≤ ks.length → ks.length ≤ bs.length + 1 → ∀ i, i < ks.length → (bs.getD i nb, if i < bs.length then outB h ρ nb (bs.getD i nb) (hget ks i) else (hget ks i).map fun k => { k with xs := k.xs.map (V.renL (rho ρ nb)), tag := none }) ∈ outD h ρ nb bs ks := by
    intro bs
    induction bs with
    | nil =>
      intro ks h1 h2 i hi
      match ks, h2 with
      | [], _ => simp at hi
      | [k], _ => have : i = 0 := by simpa using hi
                  subst this; simp [outD, hget]
      | k :: k' :: ks, h2 => simp at h2
    | cons b bs ih =>
      intro ks h1 h2 i hi
      cases ks with
      | nil => simp at h1
      | cons k ks =>
        cases i with
        | zero => simp [outD, hget]
        | succ i =>
          have := ih ks (by simpa using h1) (by simpa using h2) i (by simpa using hi)
          simp only [outD, List.getD_cons_succ, List.length_cons, Nat.add_lt_add_iff_right]
          refine List.mem_cons_of_mem _ ?_
          have e : hget (k :: ks) (i + 1) = hget ks i := by simp [hget]
          rw [e]; exact this
  have at_ : ∀ i, i < H1.length → updD h2 (outD h ρ nb ρ H1) (rho ρ nb i) = (hget H1 i).map fun k => { k with xs := k.xs.map (V.renL (rho ρ nb)), tag := if i < ρ.length then (h (rho ρ nb i)).bind (·.tag) else none } := fun i hi => by
    have := ent ρ H1 (by omega) (by omega) i hi
    have := updD_in _ h2 _ _ nodup this
    unfold rho at *
    rw [this]
    by_cases hi' : i < ρ.length
    · rw [if_pos hi']; simp only [outB, if_pos hi']; rfl
    · rw [if_neg hi']; simp only [if_neg hi']
  have off : ∀ b, b ∉ ρ → b ≠ nb → updD h2 (outD h ρ nb ρ H1) b = h2 b := fun b hb hbn => by
    refine updD_notin _ _ _ fun k hk => ?_
    have : b ∈ (outD h ρ nb ρ H1).map (·.1) := List.mem_map.2 ⟨_, hk, rfl⟩
    rw [keys ρ H1 (by omega) (by omega)] at this
    rcases List.mem_append.1 this with h1 | h1
    · exact hb h1
    · split at h1 <;> simp at h1; exact hbn h1
  have hnbn : h2 nb = none := by
    cases e : h2 nb with
    | none => rfl
    | some k => exact absurd (rel.live nb k e) hn
  -- a block behind the call: one of the caller's own, or one of the callee's
  have cases_ : ∀ b k, updD h2 (outD h ρ nb ρ H1) b = some k → (b ∉ ρ ∧ b ≠ nb ∧ h2 b = some k) ∨ ∃ i k1, b = rho ρ nb i ∧ i < H1.length ∧ hget H1 i = some k1 ∧ k = { k1 with xs := k1.xs.map (V.renL (rho ρ nb)), tag := if i < ρ.length then (h (rho ρ nb i)).bind (·.tag) else none } := fun b k e => by
    by_cases hb : b ∈ ρ
    · obtain ⟨i, hi, rfl⟩ := rmem b hb
      rw [at_ i (by omega)] at e
      obtain ⟨k1, e1, e2⟩ := Option.map_eq_some_iff.1 e
      exact .inr ⟨i, k1, rfl, by omega, e1, e2.symm⟩
    · by_cases hbn : b = nb
      · by_cases hlen : H1.length = ρ.length + 1
        · have hr : rho ρ nb ρ.length = nb := rge _ (by omega)
          rw [hbn, ← hr] at e
          rw [show updD h2 (outD h ρ (rho ρ nb ρ.length) ρ H1) = updD h2 (outD h ρ nb ρ H1) by rw [hr], at_ ρ.length (by omega)] at e
          obtain ⟨k1, e1, e2⟩ := Option.map_eq_some_iff.1 e
          exact .inr ⟨ρ.length, k1, hbn.trans hr.symm, by omega, e1, e2.symm⟩
        · rw [updD_notin _ _ _ fun k hk => ?_, hbn, hnbn] at e
          · cases e
          · have : b ∈ (outD h ρ nb ρ H1).map (·.1) := List.mem_map.2 ⟨_, hk, rfl⟩
            rw [keys ρ H1 (by omega) (by omega), if_neg hlen, List.append_nil] at this
            exact hb this
      · rw [off b hb hbn] at e; exact .inl ⟨hb, hbn, e⟩
  let G2 : Gh := { φ := fun b => if b = nb then G1.φ ρ.length else G.φ b, κ := fun b => if b = nb then G1.κ ρ.length else G.κ b, σ := fun b => if b = nb then G1.σ ρ.length else G.σ b, I := G1.I }
  have neN : ∀ b, b ≠ nb → G2.φ b = G.φ b ∧ G2.κ b = G.κ b ∧ G2.σ b = G.σ b := fun b hb => by simp [G2, hb]
  have hle : Gh.le S G G2 := ⟨fun b hb => (neN b (by rintro rfl; exact hn hb)).1, fun b hb => (neN b (by rintro rfl; exact hn hb)).2.1, fun b hb => (neN b (by rintro rfl; exact hn hb)).2.2, tr1.I⟩
  have toG : ∀ i, i < H1.length → G2.φ (rho ρ nb i) = G1.φ i ∧ G2.κ (rho ρ nb i) = G1.κ i ∧ G2.σ (rho ρ nb i) = G1.σ i := fun i hi => by
    by_cases hi' : i < ρ.length
    · have h0 : lt H0 i := by unfold lt; omega
      have hne : rho ρ nb i ≠ nb := fun e => hnb (e ▸ rlt i hi')
      obtain ⟨a1, a2, a3⟩ := neN _ hne
      exact ⟨a1.trans (hle1.φ i h0).symm, a2.trans (hle1.κ i h0).symm, a3.trans (hle1.σ i h0).symm⟩
    · have : i = ρ.length := by omega
      subst this
      rw [rge _ (by omega)]; simp [G2]
  have hle2 : Gh.le (lt H1) G1 (G2.ren (rho ρ nb)) := ⟨fun b hb => (toG b hb).1, fun b hb => (toG b hb).2.1, fun b hb => (toG b hb).2.2, Imm.le.refl _⟩
  have hSD : ∀ b, S b → SD S (outD h ρ nb ρ H1) b := fun b hb => .inl hb
  have liveN : ∀ i, LV H1 i → SD S (outD h ρ nb ρ H1) (rho ρ nb i) := fun i ⟨k, e⟩ => by
    by_cases hi : i < ρ.length
    · obtain ⟨k', e'⟩ := hin i hi
      exact .inl (rel.live _ _ e')
    · have hi1 : i < H1.length := LV_lt ⟨k, e⟩
      have := ent ρ H1 (by omega) (by omega) i hi1
      rw [if_neg hi, e] at this
      exact .inr ⟨_, this⟩
  have ne_old : ∀ b k, b ∉ ρ → h2 b = some k → ∀ i k0, hget H0 i = some k0 → Gl.φ i ≠ G.φ b := fun b k hb e i k0 e0 eφ => by
    obtain ⟨k1, e1, _⟩ := h20 i k0 e0
    exact hb (rel.inj _ _ _ _ e1 e eφ ▸ rlt i (lt0 i k0 e0))
  refine ⟨u', G2, he, hle, ⟨rel1.imm, fun b k e => ?_, fun b b' k k' e e' eφ => ?_, fun b k e hro a x ea => ?_, fun b k e => ?_, fun b k e => ?_⟩,
    ⟨tr1.os, tr1.tape, tr1.output, tr1.size, tr1.I, fun k hk hno => tr1.old k hk fun b blk e hro => ?_, fun b k e hro hlt => ?_, fun b k e hlt => ?_, fun a x e hlt => ?_⟩, ?_, ?_⟩
  · rcases cases_ b k e with ⟨hb, hbn, e0⟩ | ⟨i, k1, rfl, hi, e1, rfl⟩
    · obtain ⟨arr, e1, rr⟩ := rel.blk b k e0
      refine ⟨arr, ?_, rr.mono hle (rel.live b k e0) (rel.bd b k e0)⟩
      rw [(neN b hbn).1, tr1.old _ (rel.lt e0) fun i k0 e2 _ => ne_old b k hb e0 i k0 e2]; exact e1
    · obtain ⟨arr, e2, rr⟩ := rel1.blk i k1 e1
      obtain ⟨t1, t2, t3⟩ := toG i hi
      refine ⟨arr, by rw [t1]; exact e2, by rw [t3]; exact rr.sz, by rw [t2]; exact rr.size, by have := rr.fits; simpa using this, fun n cs hn => ?_, fun n j cs c hn hj => ?_, fun hro n hn => ?_, fun t ht => ?_⟩
      · rw [List.getElem?_map] at hn
        obtain ⟨cs0, hn', rfl⟩ := Option.map_eq_some_iff.1 hn
        rw [renL_len]; exact rr.len n cs0 hn'
      · rw [List.getElem?_map] at hn
        obtain ⟨cs0, hn', rfl⟩ := Option.map_eq_some_iff.1 hn
        rw [renL_get] at hj
        obtain ⟨c0, hj', rfl⟩ := Option.map_eq_some_iff.1 hj
        obtain ⟨x, q1, q2, q3⟩ := rr.cell n j cs0 c0 hn' hj'
        refine ⟨x, q1, q2, (R_ren c0 x).1 (R_mono hle2 c0 x ?_ q3)⟩
        exact V.bdL_mem (V.bdL_mono (fun _ h => LV_lt h) _ (ok1.bd i k1 e1 cs0 (List.mem_of_getElem? hn'))) (List.mem_of_getElem? hj')
      · have := rr.ro hro n (by simpa using hn)
        rw [t1]; exact this
      · by_cases hi' : i < ρ.length
        · simp only [if_pos hi'] at ht
          obtain ⟨kk, ek⟩ := hin i hi'
          obtain ⟨arr', e3, rr'⟩ := rel.blk _ kk ek
          rw [← hrd _ (rlt i hi'), ek] at ht
          have := rr'.tag t ht
          rw [this, (neN _ fun e => hnb (e ▸ rlt i hi')).1, (neN _ fun e => hnb (e ▸ rlt i hi')).2.1, (neN _ fun e => hnb (e ▸ rlt i hi')).2.2]
        · simp only [if_neg hi'] at ht; cases ht
  · rcases cases_ b k e with ⟨hb, hbn, e0⟩ | ⟨i, k1, rfl, hi, e1, rfl⟩ <;> rcases cases_ b' k' e' with ⟨hb', hbn', e0'⟩ | ⟨j, k1', rfl, hj, e1', rfl⟩
    · rw [(neN b hbn).1, (neN b' hbn').1] at eφ
      exact rel.inj b b' k k' e0 e0' eφ
    · rw [(neN b hbn).1, (toG j hj).1] at eφ
      obtain ⟨i0, k0, f0, f1⟩ := tr1.lives j k1' e1' (by rw [← eφ]; exact rel.lt e0)
      exact absurd (f1.trans eφ.symm) (ne_old b k hb e0 i0 k0 f0)
    · rw [(neN b' hbn').1, (toG i hi).1] at eφ
      obtain ⟨i0, k0, f0, f1⟩ := tr1.lives i k1 e1 (by rw [eφ]; exact rel.lt e0')
      exact absurd (f1.trans eφ) (ne_old b' k' hb' e0' i0 k0 f0)
    · rw [(toG i hi).1, (toG j hj).1] at eφ
      rw [rel1.inj i j k1 k1' e1 e1' eφ]
  · rcases cases_ b k e with ⟨hb, hbn, e0⟩ | ⟨i, k1, rfl, hi, e1, rfl⟩
    · rw [(neN b hbn).1]
      by_cases hlt : a.block < w.heap.size
      · rcases tr1.inew a x ea hlt with f | ⟨i0, k0, f0, f1⟩
        · exact rel.sep b k e0 hro a x f
        · rw [← f1]; exact ne_old b k hb e0 i0 k0 f0
      · have := rel.lt e0; omega
    · rw [(toG i hi).1]; exact rel1.sep i k1 e1 hro a x ea
  · rcases cases_ b k e with ⟨hb, hbn, e0⟩ | ⟨i, k1, rfl, hi, e1, rfl⟩
    · exact hSD b (rel.live b k e0)
    · exact liveN i ⟨k1, e1⟩
  · rcases cases_ b k e with ⟨hb, hbn, e0⟩ | ⟨i, k1, rfl, hi, e1, rfl⟩
    · exact fun cs hcs => V.bdL_mono hSD cs (rel.bd b k e0 cs hcs)
    · intro cs hcs
      obtain ⟨cs0, hcs0, rfl⟩ := List.mem_map.1 hcs
      exact V.bdL_ren liveN cs0 (ok1.bd i k1 e1 cs0 hcs0)
  · obtain ⟨k1, e1, kw⟩ := h20 b blk e
    exact hno _ _ e1 (kw.ro.trans hro)
  · rcases cases_ b k e with ⟨hb, hbn, e0⟩ | ⟨i, k1, rfl, hi, e1, rfl⟩
    · exact ⟨b, k, e0, hro, ((neN b hbn).1).symm⟩
    · rw [(toG i hi).1] at hlt ⊢
      obtain ⟨i0, k0, f0, f1, f2⟩ := tr1.muts i k1 e1 hro hlt
      obtain ⟨k2, e2, kw⟩ := h20 i0 k0 f0
      exact ⟨_, _, e2, kw.ro.trans f1, f2⟩
  · rcases cases_ b k e with ⟨hb, hbn, e0⟩ | ⟨i, k1, rfl, hi, e1, rfl⟩
    · exact ⟨b, k, e0, ((neN b hbn).1).symm⟩
    · rw [(toG i hi).1] at hlt ⊢
      obtain ⟨i0, k0, f0, f2⟩ := tr1.lives i k1 e1 hlt
      obtain ⟨k2, e2, _⟩ := h20 i0 k0 f0
      exact ⟨_, _, e2, f2⟩
  · rcases tr1.inew a x e hlt with f | ⟨i0, k0, f0, f1⟩
    · exact .inl f
    · obtain ⟨k2, e2, _⟩ := h20 i0 k0 f0
      exact .inr ⟨_, _, e2, f1⟩
  · exact (R_ren v u').1 (R_mono hle2 v u' (V.bd_mono (fun _ h => LV_lt h) v bv) hR)
  · exact V.bd_ren liveN v bv
theorem outD_keys {h : HF} {ρ : List Nat} {nb : Nat} : ∀ (bs : List Nat) (ks : Hp) (b : Nat) (k : Option Blk), (b, k) ∈ outD h ρ nb bs ks → b = nb ∨ b ∈ bs
  | [], [], b, k, hm => by simp [outD] at hm
  | [], [k0], b, k, hm => by simp only [outD, List.mem_singleton, Prod.mk.injEq] at hm; exact .inl hm.1
  | [], _ :: _ :: _, b, k, hm => by simp [outD] at hm
  | c :: bs, [], b, k, hm => by simp [outD] at hm
  | c :: bs, k0 :: ks, b, k, hm => by
    simp only [outD, List.mem_cons, Prod.mk.injEq] at hm
    rcases hm with hm | hm
    · exact .inr (by simp [hm.1])
    · rcases outD_keys bs ks b k hm with h | h
      · exact .inl h
      · exact .inr (by simp [h])
theorem ACall.heap {P : Program} {nb : Nat} {vs vs0 : List V} {h : HF} {K : Kont} {f : FuncId} {H0 H1 : Hp} {v : V} (ρ : List Nat) (hm : MCall P f vs0 H0 v H1) (hl : ρ.length = H0.length) (hnd : ρ.Nodup) (hnb : nb ∉ ρ)
    (hvs : VM (rho ρ nb) vs vs0) (hh : ∀ i k, hget H0 i = some k → ∃ k', h (rho ρ nb i) = some k' ∧ BlkWk (rho ρ nb) k' k)
    (hK : K (v.ren (rho ρ nb)) ρ (outD h ρ nb ρ H1)) : ACall P nb (.pv (.fn f [])) vs h K :=
  ⟨_, _, _, hK, fun b k hb => outD_keys ρ H1 b k hb, CallOk.heap ρ hm hl hnd hnb hvs hh⟩
end Go.Ab
