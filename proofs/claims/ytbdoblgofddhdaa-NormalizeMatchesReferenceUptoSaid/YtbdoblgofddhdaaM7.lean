/- M7: joined from Y7. -/
import Derived.Test.YtbdoblgofddhdaaM1
import Derived.Test.YtbdoblgofddhdaaA6
/- Associated types: the reference's normal form is the program's; how big it may be. -/
set_option maxRecDepth 10000
set_option linter.unusedSimpArgs false
set_option linter.unusedVariables false
namespace Go.Proofs.Ytbdoblgofddhdaa
open Go Go.Ab
mutual
def nfrT (g : Ty → Ty × Bool) : Ty → Ty × Bool
  | .mk k id ss => match nfrL g ss with
    | .inl u => (u, false)
    | .inr qs => if k == 10 then g (.mk k id qs) else (.mk k id qs, true)
def nfrL (g : Ty → Ty × Bool) : List Ty → Sum Ty (List Ty)
  | [] => .inr []
  | t :: ts => if (nfrT g t).2 then (match nfrL g ts with | .inl u => .inl u | .inr qs => .inr ((nfrT g t).1 :: qs)) else .inl (nfrT g t).1
end
def nfP (E : Env) : Nat → Ty → Ty × Bool
  | n, t => if decide (trt E t.id < 0) then (t, false) else if !((t.args.length : Int) == 1) then (t, false) else
    match sol E.ds E.az 8 (arg0 t) (trt E t.id) with
    | none => (t, true)
    | some p => if decide (p.im < 0) then (t, true) else if decide (memI E p.im t.id < 0) then (zT, true) else
      match n with
      | 0 => (zT, true)
      | n + 1 => nfrT (nfP E n) (appT (dcP E.ds p.im) p.az (dcT E.ds (memI E p.im t.id)))
def Sim (g : Ty → Bool → Ty × Bool) (h : Ty → Ty × Bool) : Prop := ∀ t, ((h t).2 = true → ∀ b, g t b = ((h t).1, b)) ∧ ((h t).2 = false → ∀ b, (g t b).2 = true)
def Stick (g : Ty → Bool → Ty × Bool) : Prop := ∀ t, (g t true).2 = true
mutual
theorem stickT {g : Ty → Bool → Ty × Bool} (hg : Stick g) : ∀ t : Ty, (nrmT g t true).2 = true
  | .mk k id ss => by
    have h := stickL hg ss
    unfold nrmT
    split
    · rw [h]; exact hg _
    · exact h
theorem stickL {g : Ty → Bool → Ty × Bool} (hg : Stick g) : ∀ ts : List Ty, (nrmL g ts true).2 = true
  | [] => rfl
  | t :: ts => by
    simp only [nrmL]
    rw [stickT hg t]; exact stickL hg ts
end
theorem stick_prj (E : Env) (n : Nat) : Stick (prj E n) := fun t => by
  cases h : (prj E n t true).2 with
  | true => rfl
  | false => have := (prj_good E n t true h).1; cases this
mutual
theorem simT {g : Ty → Bool → Ty × Bool} {h : Ty → Ty × Bool} (hs : Sim g h) (hg : Stick g) : ∀ t : Ty, ((nfrT h t).2 = true → ∀ b, nrmT g t b = ((nfrT h t).1, b)) ∧ ((nfrT h t).2 = false → ∀ b, (nrmT g t b).2 = true)
  | .mk k id ss => by
    obtain ⟨h1, h2⟩ := simL hs hg ss
    unfold nfrT
    cases hl : nfrL h ss with
    | inl u =>
      simp only
      refine ⟨fun e => (by cases e), fun _ b => ?_⟩
      have := h2 u hl b
      unfold nrmT
      split
      · rw [this]; exact hg _
      · exact this
    | inr qs =>
      simp only
      have e := h1 qs hl
      by_cases hk : (k == 10) = true
      · rw [if_pos hk]
        obtain ⟨s1, s2⟩ := hs (.mk k id qs)
        refine ⟨fun ht b => ?_, fun ht b => ?_⟩
        · unfold nrmT; rw [if_pos hk, e b]; exact s1 ht b
        · unfold nrmT; rw [if_pos hk, e b]; exact s2 ht b
      · rw [if_neg hk]
        refine ⟨fun ht b => ?_, fun ht => by cases ht⟩
        unfold nrmT; rw [if_neg hk, e b]
theorem simL {g : Ty → Bool → Ty × Bool} {h : Ty → Ty × Bool} (hs : Sim g h) (hg : Stick g) : ∀ ts : List Ty, (∀ qs, nfrL h ts = .inr qs → ∀ b, nrmL g ts b = (qs, b)) ∧ (∀ u, nfrL h ts = .inl u → ∀ b, (nrmL g ts b).2 = true)
  | [] => ⟨fun qs e b => by simp only [nfrL, Sum.inr.injEq] at e; subst e; rfl, fun u e => by simp [nfrL] at e⟩
  | t :: ts => by
    obtain ⟨h1, h2⟩ := simT hs hg t
    obtain ⟨h3, h4⟩ := simL hs hg ts
    cases ht : (nfrT h t).2 with
    | false =>
      have e1 := h2 ht
      refine ⟨fun qs e => ?_, fun u e b => ?_⟩
      · simp only [nfrL, ht, Bool.false_eq_true, if_false] at e; cases e
      · simp only [nrmL]; rw [e1 b]; exact stickL hg ts
    | true =>
      have e1 := h1 ht
      cases hl : nfrL h ts with
      | inl u' =>
        refine ⟨fun qs e => ?_, fun u e b => ?_⟩
        · simp only [nfrL, ht, if_true, hl] at e; cases e
        · simp only [nrmL, e1 b]; exact h4 u' hl b
      | inr qs' =>
        refine ⟨fun qs e b => ?_, fun u e => ?_⟩
        · simp only [nfrL, ht, if_true, hl, Sum.inr.injEq] at e
          subst e
          simp only [nrmL, e1 b, h3 qs' hl b]
        · simp only [nfrL, ht, if_true, hl] at e; cases e
end
theorem sim_prj (E : Env) : ∀ n : Nat, Sim (prj E n) (nfP E n) := by
  intro n
  induction n with
  | zero =>
    intro t
    unfold nfP prj
    by_cases h1 : decide (trt E t.id < 0) = true
    · rw [if_pos h1]; exact ⟨fun e => (by cases e), fun _ b => by rw [if_pos h1]⟩
    rw [if_neg h1]
    by_cases h2 : (!((t.args.length : Int) == 1)) = true
    · rw [if_pos h2]; exact ⟨fun e => (by cases e), fun _ b => by rw [if_neg h1, if_pos h2]⟩
    rw [if_neg h2]
    cases hs : sol E.ds E.az 8 (arg0 t) (trt E t.id) with
    | none => exact ⟨fun _ b => by rw [if_neg h1, if_neg h2], fun e => by cases e⟩
    | some p =>
      simp only
      by_cases h3 : decide (p.im < 0) = true
      · rw [if_pos h3]; exact ⟨fun _ b => by rw [if_neg h1, if_neg h2, if_pos h3], fun e => by cases e⟩
      rw [if_neg h3]
      by_cases h4 : decide (memI E p.im t.id < 0) = true
      · rw [if_pos h4]; exact ⟨fun _ b => by rw [if_neg h1, if_neg h2, if_neg h3, if_pos h4], fun e => by cases e⟩
      · rw [if_neg h4]; exact ⟨fun _ b => by rw [if_neg h1, if_neg h2, if_neg h3, if_neg h4], fun e => by cases e⟩
  | succ n ih =>
    intro t
    unfold nfP prj
    by_cases h1 : decide (trt E t.id < 0) = true
    · rw [if_pos h1]; exact ⟨fun e => (by cases e), fun _ b => by rw [if_pos h1]⟩
    rw [if_neg h1]
    by_cases h2 : (!((t.args.length : Int) == 1)) = true
    · rw [if_pos h2]; exact ⟨fun e => (by cases e), fun _ b => by rw [if_neg h1, if_pos h2]⟩
    rw [if_neg h2]
    cases hs : sol E.ds E.az 8 (arg0 t) (trt E t.id) with
    | none => exact ⟨fun _ b => by rw [if_neg h1, if_neg h2], fun e => by cases e⟩
    | some p =>
      simp only
      by_cases h3 : decide (p.im < 0) = true
      · rw [if_pos h3]; exact ⟨fun _ b => by rw [if_neg h1, if_neg h2, if_pos h3], fun e => by cases e⟩
      rw [if_neg h3]
      by_cases h4 : decide (memI E p.im t.id < 0) = true
      · rw [if_pos h4]; exact ⟨fun _ b => by rw [if_neg h1, if_neg h2, if_neg h3, if_pos h4], fun e => by cases e⟩
      · rw [if_neg h4]
        obtain ⟨s1, s2⟩ := simT ih (stick_prj E n) (appT (dcP E.ds p.im) p.az (dcT E.ds (memI E p.im t.id)))
        exact ⟨fun e b => by rw [if_neg h1, if_neg h2, if_neg h3, if_neg h4]; exact s1 e b, fun e b => by rw [if_neg h1, if_neg h2, if_neg h3, if_neg h4]; exact s2 e b⟩
def refN (E : Env) (t : Ty) : Ty := if (nfrT (nfP E 8) t).2 then (if valT (nfrT (nfP E 8) t).1 == 2 then zT else (nfrT (nfP E 8) t).1) else zT
theorem NR_ref {E : Env} {t : Ty} (hl : E.ds.length = E.sy.length) : NR E t = refN E t := by
  obtain ⟨s1, s2⟩ := simT (sim_prj E 8) (stick_prj E 8) t
  unfold NR refN
  rw [if_neg (by simp [hl])]
  cases h : (nfrT (nfP E 8) t).2 with
  | true => rw [s1 h false]; simp
  | false => rw [s2 h false]; simp
/-! ### sizes -/
mutual
def npr : Ty → Nat
  | .mk k _ ss => (if k == 10 then 1 else 0) + nprL ss
def nprL : List Ty → Nat
  | [] => 0
  | t :: ts => npr t + nprL ts
end
theorem nf_args {E : Env} {t : Ty} (h : Nf E t) : ∀ s ∈ t.args, Nf E s := by
  cases h with
  | mk k id ss h1 h2 => exact h1
theorem nds_arg : ∀ {ss : List Ty} {s : Ty}, s ∈ ss → nds s ≤ ndsL ss
  | x :: ss, s, h => by
    simp only [ndsL]
    rcases List.mem_cons.1 h with rfl | h
    · omega
    · have := nds_arg h; omega
mutual
theorem nfr_id {E : Env} (n : Nat) : ∀ t : Ty, Nf E t → nfrT (nfP E n) t = (t, true)
  | .mk k id ss, h => by
    cases h with
    | mk _ _ _ h1 h2 =>
      have hl := nfrL_id n ss h1
      unfold nfrT
      rw [hl]
      simp only
      by_cases hk : k = 10
      · rw [if_pos (by simp [hk])]
        obtain ⟨r1, r2, r3⟩ := h2 hk
        unfold nfP
        rw [if_neg (by simpa using r1), if_neg (by simp [r2])]
        cases hs : sol E.ds E.az 8 (arg0 (.mk k id ss)) (trt E (Ty.mk k id ss).id) with
        | none => rfl
        | some p => simp only; rw [if_pos (by simpa using r3 p hs)]
      · rw [if_neg (by simp [hk])]
theorem nfrL_id {E : Env} (n : Nat) : ∀ ts : List Ty, (∀ s ∈ ts, Nf E s) → nfrL (nfP E n) ts = .inr ts
  | [], _ => rfl
  | t :: ts, h => by
    have h1 := nfr_id n t (h t (by simp))
    have h2 := nfrL_id n ts fun s hs => h s (by simp [hs])
    simp only [nfrL, h1, h2, if_true]
end
/-- what is put for the parameters: normal forms, not too big -/
def Sub (E : Env) (S : Nat) (xs : List Ty) : Prop := ∀ x ∈ xs, Nf E x ∧ nds x ≤ S
mutual
theorem app_b {E : Env} {n S F : Nat} {ps : List Int} {xs : List Ty} (hS : 1 ≤ S) (hx : Sub E S xs) (W : Nat) (hF : ∀ id qs v, (∀ q ∈ qs, Nf E q) → ndsL qs ≤ W → nfP E n (.mk 10 id qs) = (v, true) → nds v ≤ F) :
    ∀ (M u : Ty), npr M ≤ 1 → nds M * S ≤ W + S → nfrT (nfP E n) (appT ps xs M) = (u, true) → nds u ≤ nds M * S + npr M * F ∧ (npr M = 0 → Nf E u ∧ nds u ≤ nds M * S)
  | .mk k id ss, u, hp, hw, h => by
    by_cases hg : isPar ps k id = true ∧ parI ps id < xs.length
    · rw [app_par hg.1 hg.2] at h
      have hm : xs.getD (parI ps id) zT ∈ xs := by rw [List.getD_eq_getElem?_getD, List.getElem?_eq_getElem hg.2]; exact List.getElem_mem _
      obtain ⟨e1, e2⟩ := hx _ hm
      rw [nfr_id n _ e1] at h
      simp only [Prod.mk.injEq, and_true] at h
      subst h
      have h1 : 1 * S ≤ nds (.mk k id ss) * S := Nat.mul_le_mul_right S (nds_pos _)
      rw [Nat.one_mul] at h1
      exact ⟨by omega, fun _ => ⟨e1, by omega⟩⟩
    · have ha : appT ps xs (.mk k id ss) = .mk k id (mapTL (appG ps xs) ss) := by
        by_cases hp2 : isPar ps k id = true
        · have hn : ¬ parI ps id < xs.length := fun h => hg ⟨hp2, h⟩
          simp [appT, mapT, appG, Ty.kd, Ty.id, hp2, hn]
        · exact app_not (by simpa using hp2)
      rw [ha] at h
      unfold nfrT at h
      have hnd : nds (.mk k id ss) * S = ndsL ss * S + S := by simp only [nds, Nat.add_mul, Nat.one_mul]
      have hpr : npr (.mk k id ss) = (if k == 10 then 1 else 0) + nprL ss := rfl
      cases hl : nfrL (nfP E n) (mapTL (appG ps xs) ss) with
      | inl v => rw [hl] at h; simp at h
      | inr qs =>
        rw [hl] at h
        simp only at h
        obtain ⟨b1, b2⟩ := app_bL hS hx W hF ss qs (by omega) (by omega) hl
        by_cases hk : (k == 10) = true
        · rw [if_pos hk] at h
          have hk' : k = 10 := by simpa using hk
          subst hk'
          simp only [beq_self_eq_true, if_true] at hpr
          have h0 : nprL ss = 0 := by omega
          obtain ⟨n1, n2⟩ := b2 h0
          have := hF id qs u n1 (by omega) h
          rw [hpr, h0]
          refine ⟨by omega, fun e => by omega⟩
        · rw [if_neg hk] at h hpr
          simp only [Prod.mk.injEq, and_true] at h
          subst h
          have hu : nds (.mk k id qs) = ndsL qs + 1 := rfl
          rw [hpr, Nat.zero_add, hu]
          refine ⟨by omega, fun e => ?_⟩
          obtain ⟨n1, n2⟩ := b2 e
          exact ⟨.mk k id qs n1 fun e => absurd (by simp [e]) hk, by omega⟩
theorem app_bL {E : Env} {n S F : Nat} {ps : List Int} {xs : List Ty} (hS : 1 ≤ S) (hx : Sub E S xs) (W : Nat) (hF : ∀ id qs v, (∀ q ∈ qs, Nf E q) → ndsL qs ≤ W → nfP E n (.mk 10 id qs) = (v, true) → nds v ≤ F) :
    ∀ (Ms us : List Ty), nprL Ms ≤ 1 → ndsL Ms * S ≤ W + S → nfrL (nfP E n) (mapTL (appG ps xs) Ms) = .inr us → ndsL us ≤ ndsL Ms * S + nprL Ms * F ∧ (nprL Ms = 0 → (∀ u ∈ us, Nf E u) ∧ ndsL us ≤ ndsL Ms * S)
  | [], us, _, _, h => by
    simp only [mapTL, nfrL, Sum.inr.injEq] at h
    subst h
    simp [ndsL]
  | M :: Ms, us, hp, hw, h => by
    have hpr : nprL (M :: Ms) = npr M + nprL Ms := rfl
    have hnd : ndsL (M :: Ms) * S = nds M * S + ndsL Ms * S := by simp only [ndsL, Nat.add_mul]
    simp only [mapTL, nfrL] at h
    cases hb : (nfrT (nfP E n) (mapT (appG ps xs) M)).2 with
    | false => rw [hb] at h; simp at h
    | true =>
      rw [hb, if_pos rfl] at h
      cases hl : nfrL (nfP E n) (mapTL (appG ps xs) Ms) with
      | inl v => rw [hl] at h; simp at h
      | inr qs =>
        rw [hl] at h
        simp only [Sum.inr.injEq] at h
        subst h
        have he : nfrT (nfP E n) (appT ps xs M) = ((nfrT (nfP E n) (mapT (appG ps xs) M)).1, true) := by rw [← hb]; rfl
        obtain ⟨a1, a2⟩ := app_b hS hx W hF M _ (by omega) (by omega) he
        obtain ⟨b1, b2⟩ := app_bL hS hx W hF Ms qs (by omega) (by omega) hl
        have hu : ndsL ((nfrT (nfP E n) (mapT (appG ps xs) M)).1 :: qs) = nds (nfrT (nfP E n) (mapT (appG ps xs) M)).1 + ndsL qs := rfl
        rw [hpr, hnd, hu, Nat.add_mul]
        refine ⟨by omega, fun e => ?_⟩
        obtain ⟨c1, c2⟩ := a2 (by omega)
        obtain ⟨d1, d2⟩ := b2 (by omega)
        refine ⟨fun u hu => ?_, by omega⟩
        rcases List.mem_cons.1 hu with rfl | hu
        · exact c1
        · exact d1 u hu
end
mutual
theorem mch_pred {Pd : Ty → Prop} (hc : ∀ t, Pd t → ∀ s ∈ t.args, Pd s) (ps : List Int) : ∀ (p t : Ty) (As : List Ty) (Bs : List Bool), (∀ a ∈ As, Pd a) → Pd t → ∀ a ∈ (mch ps p t As Bs).2.1, Pd a
  | .mk k id qs, t, As, Bs, hA, ht => by
    cases hp : isPar ps k id with
    | true =>
      rw [mch_par qs t As Bs hp]
      by_cases hB : Bs.getD (parI ps id) false = true
      · rw [if_pos hB]; exact hA
      · rw [if_neg hB]
        intro a ha
        rcases List.mem_or_eq_of_mem_set ha with ha | rfl
        · exact hA a ha
        · exact ht
    | false =>
      by_cases h : t.kd == k ∧ t.id == id ∧ (t.args.length : Int) == qs.length
      · rw [mch_yes qs t As Bs hp h]
        exact mchL_pred hc ps qs t.args As Bs hA (hc t ht)
      · rw [mch_no qs t As Bs hp h]; exact hA
theorem mchL_pred {Pd : Ty → Prop} (hc : ∀ t, Pd t → ∀ s ∈ t.args, Pd s) (ps : List Int) : ∀ (qs ts : List Ty) (As : List Ty) (Bs : List Bool), (∀ a ∈ As, Pd a) → (∀ t ∈ ts, Pd t) → ∀ a ∈ (mchL ps qs ts As Bs).2.1, Pd a
  | [], ts, As, Bs, hA, _ => by simpa only [mchL] using hA
  | q :: qs, [], As, Bs, hA, _ => by simpa only [mchL] using hA
  | q :: qs, t :: ts, As, Bs, hA, ht => by
    have h1 := mch_pred hc ps q t As Bs hA (ht t (by simp))
    simp only [mchL]
    split
    · exact mchL_pred hc ps qs ts _ _ h1 fun s hs => ht s (by simp [hs])
    · exact h1
end
theorem sol_az {ds : List Dc} {az : List Tb} {n : Nat} {t : Ty} {tr : Int} {p : Prf} (h : sol ds az n t tr = some p) (h0 : ¬ p.im < 0) : ∃ d : Dc, p.az = (matchR d.ps t d.t).2 := by
  cases n with
  | zero => simp [sol] at h
  | succ n =>
    simp only [sol] at h
    by_cases c1 : (t.kd == 0) = true
    · rw [if_pos c1] at h; cases h
    rw [if_neg c1] at h
    by_cases c2 : decide (tr < 0) = true
    · rw [if_pos c2] at h; cases h
    rw [if_neg c2] at h
    by_cases c3 : decide (bdF az t tr ≥ 0) = true
    · rw [if_pos c3] at h
      cases h
      simp [Prf.im] at h0
    rw [if_neg c3] at h
    cases hm : mImp t tr ds 0 with
    | none => rw [hm] at h; cases h
    | some x =>
      obtain ⟨i, xs⟩ := x
      obtain ⟨d, _, hd, ho, hx⟩ := mImp_spec hm
      rw [Nat.sub_zero] at hd
      rw [hm] at h
      simp only [hd] at h
      by_cases c4 : decide ((d.bs.length : Int) > 4) = true
      · rw [if_pos c4] at h; cases h
      rw [if_neg c4] at h
      cases hs : solL (sol ds az n) d.ps xs d.bs with
      | none => rw [hs] at h; cases h
      | some qs =>
        rw [hs] at h
        cases h
        exact ⟨d, hx⟩
def Gb : Nat → Nat → Nat
  | 0, S => 5 * S + 1
  | n + 1, S => 5 * S + 1 + (6 * (5 * S) + Gb n (5 * S))
theorem Gb_le (n S : Nat) : 5 * S + 1 ≤ Gb n S := by cases n <;> simp only [Gb] <;> omega
theorem nfP_b {E : Env} (hE : ∀ d ∈ E.ds, nds d.t ≤ 6 ∧ npr d.t ≤ 1) : ∀ (n S : Nat) (id : Int) (qs : List Ty) (v : Ty), 1 ≤ S → (∀ q ∈ qs, Nf E q) → ndsL qs ≤ 5 * S → nfP E n (.mk 10 id qs) = (v, true) → nds v ≤ Gb n S := by
  intro n
  induction n with
  | zero =>
    intro S id qs v hS hq hw h
    have hG := Gb_le 0 S
    have ht : nds (.mk 10 id qs) = ndsL qs + 1 := rfl
    have hz : nds zT = 1 := rfl
    unfold nfP at h
    by_cases h1 : decide (trt E (Ty.mk 10 id qs).id < 0) = true
    · rw [if_pos h1] at h; cases h
    rw [if_neg h1] at h
    by_cases h2 : (!(((Ty.mk 10 id qs).args.length : Int) == 1)) = true
    · rw [if_pos h2] at h; cases h
    rw [if_neg h2] at h
    cases hs : sol E.ds E.az 8 (arg0 (.mk 10 id qs)) (trt E (Ty.mk 10 id qs).id) with
    | none => rw [hs] at h; cases h; omega
    | some p =>
      rw [hs] at h
      simp only at h
      by_cases h3 : decide (p.im < 0) = true
      · rw [if_pos h3] at h; cases h; omega
      rw [if_neg h3] at h
      by_cases h4 : decide (memI E p.im (Ty.mk 10 id qs).id < 0) = true
      · rw [if_pos h4] at h; cases h; omega
      · rw [if_neg h4] at h; cases h; omega
  | succ n ih =>
    intro S id qs v hS hq hw h
    have hG := Gb_le (n + 1) S
    have ht : nds (.mk 10 id qs) = ndsL qs + 1 := rfl
    have hz : nds zT = 1 := rfl
    unfold nfP at h
    by_cases h1 : decide (trt E (Ty.mk 10 id qs).id < 0) = true
    · rw [if_pos h1] at h; cases h
    rw [if_neg h1] at h
    by_cases h2 : (!(((Ty.mk 10 id qs).args.length : Int) == 1)) = true
    · rw [if_pos h2] at h; cases h
    rw [if_neg h2] at h
    cases hs : sol E.ds E.az 8 (arg0 (.mk 10 id qs)) (trt E (Ty.mk 10 id qs).id) with
    | none => rw [hs] at h; cases h; omega
    | some p =>
      rw [hs] at h
      simp only at h
      by_cases h3 : decide (p.im < 0) = true
      · rw [if_pos h3] at h; cases h; omega
      rw [if_neg h3] at h
      by_cases h4 : decide (memI E p.im (Ty.mk 10 id qs).id < 0) = true
      · rw [if_pos h4] at h; cases h; omega
      rw [if_neg h4] at h
      have hM : nds (dcT E.ds (memI E p.im (Ty.mk 10 id qs).id)) ≤ 6 ∧ npr (dcT E.ds (memI E p.im (Ty.mk 10 id qs).id)) ≤ 1 := by
        unfold dcT
        cases hd : E.ds[(memI E p.im (Ty.mk 10 id qs).id).toNat]? with
        | none => exact ⟨by decide, by decide⟩
        | some d => exact hE d (List.mem_of_getElem? hd)
      generalize dcT E.ds (memI E p.im (Ty.mk 10 id qs).id) = M at hM h
      have ha0 : Nf E (arg0 (.mk 10 id qs)) ∧ nds (arg0 (.mk 10 id qs)) ≤ 5 * S := by
        cases qs with
        | nil => exact ⟨nf_zT E, by show 1 ≤ 5 * S; omega⟩
        | cons a as_ =>
          refine ⟨hq a (by simp), ?_⟩
          have : nds a ≤ ndsL (a :: as_) := nds_arg (by simp)
          show nds a ≤ 5 * S; omega
      have hsub : Sub E (5 * S) p.az := by
        obtain ⟨d, hd⟩ := sol_az hs (by simpa using h3)
        rw [hd]
        intro x hx
        unfold matchR at hx
        simp only at hx
        have hp := mch_pred (Pd := fun x => Nf E x ∧ nds x ≤ 5 * S) (fun t ht s hs => ⟨nf_args ht.1 s hs, by
          have h1 := nds_arg hs
          have h2 : nds t = ndsL t.args + 1 := by cases t; rfl
          have := ht.2
          omega⟩) d.ps d.t (arg0 (.mk 10 id qs)) (List.replicate d.ps.length zT) (List.replicate d.ps.length false) (fun a ha => by
            rw [(List.mem_replicate.1 ha).2]; exact ⟨nf_zT E, by show 1 ≤ 5 * S; omega⟩) ha0
        split at hx
        · exact hp x hx
        · cases hx
      have hMS : nds M * (5 * S) ≤ 6 * (5 * S) := Nat.mul_le_mul_right _ hM.1
      obtain ⟨b1, _⟩ := app_b (ps := dcP E.ds p.im) (F := Gb n (5 * S)) (by omega) hsub (5 * (5 * S)) (fun id' qs' v' h1 h2 h3 => ih (5 * S) id' qs' v' (by omega) h1 h2 h3) M v hM.2 (by omega) h
      have hpm : npr M * Gb n (5 * S) ≤ 1 * Gb n (5 * S) := Nat.mul_le_mul_right _ hM.2
      simp only [Gb]
      omega
theorem want_b {E : Env} (hE : ∀ d ∈ E.ds, nds d.t ≤ 6 ∧ npr d.t ≤ 1) {t u : Ty} (h1 : nds t ≤ 6) (h2 : npr t ≤ 1) (h : nfrT (nfP E 8) t = (u, true)) : nds u ≤ 9000000 := by
  have ha : appT [] [] t = t := app_absent (by simp)
  rw [← ha] at h
  obtain ⟨b1, _⟩ := app_b (S := 1) (F := Gb 8 1) (by omega) (by intro x hx; cases hx) (5 * 1) (fun id' qs' v' h1 h2 h3 => nfP_b hE 8 1 id' qs' v' (by omega) h1 h2 h3) t u h2 (by omega) h
  have hG : Gb 8 1 ≤ 8000000 := by decide
  have hpm : npr t * Gb 8 1 ≤ 1 * Gb 8 1 := Nat.mul_le_mul_right _ h2
  omega
end Go.Proofs.Ytbdoblgofddhdaa
