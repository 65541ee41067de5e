/- B1: joined from V8. -/
import Derived.Test.YtbdoblgofddhdaaA4
import Derived.Test.YtbdoblgofddhdaaA3
/- Traits: the reference's matcher gathers first and compares then; it answers as the program's. -/
set_option maxRecDepth 10000
set_option linter.unusedSimpArgs false
set_option linter.unusedVariables false
namespace Go.Proofs.Ytbdoblgofddhdaa
open Go Go.Ab
mutual
/-- the places of the parameters and what stands there -/
def oc (ps : List Int) : Ty → Ty → Option (List (Int × Ty))
  | .mk k id qs, t => if isPar ps k id then some [((parI ps id : Nat), t)] else if (if (if !(t.kd == k) then true else !(t.id == id)) then true else !((t.args.length : Int) == qs.length)) then none else ocL ps qs t.args
def ocL (ps : List Int) : List Ty → List Ty → Option (List (Int × Ty))
  | [], _ => some []
  | _ :: _, [] => some []
  | q :: qs, t :: ts => match oc ps q t with
    | none => none
    | some a => match ocL ps qs ts with
      | none => none
      | some b => some (a ++ b)
end
/-- what the i-th parameter stands for -/
def ck (i : Int) : List (Int × Ty) → Bool → Ty → Option Ty
  | [], _, a => some a
  | (j, u) :: L, f, a => if !(j == i) then ck i L f a else if f then (if eqT u a then ck i L true a else none) else ck i L true u
def rML (L : List (Int × Ty)) : Nat → Nat → Option (List Ty)
  | _, 0 => some []
  | i, n + 1 => match ck i L false zT with
    | none => none
    | some a => match rML L (i + 1) n with
      | none => none
      | some as_ => some (a :: as_)
def refM (ps : List Int) (t p : Ty) : Bool × List Ty := match oc ps p t with
  | none => (false, [])
  | some L => match rML L 0 ps.length with
    | none => (false, [])
    | some xs => (true, xs)
def run : List (Int × Ty) → List Ty → List Bool → Bool × List Ty × List Bool
  | [], As, Bs => (true, As, Bs)
  | (j, u) :: L, As, Bs => if Bs.getD j.toNat false then (if eqT (As.getD j.toNat zT) u then run L As Bs else (false, As, Bs)) else run L (As.set j.toNat u) (Bs.set j.toNat true)
theorem run_app : ∀ (L M : List (Int × Ty)) (As : List Ty) (Bs : List Bool), run (L ++ M) As Bs = if (run L As Bs).1 then run M (run L As Bs).2.1 (run L As Bs).2.2 else run L As Bs
  | [], M, As, Bs => by simp [run]
  | (j, u) :: L, M, As, Bs => by
    simp only [List.cons_append, run]
    split
    · split
      · exact run_app L M As Bs
      · simp
    · exact run_app L M _ _
theorem run_len : ∀ (L : List (Int × Ty)) (As : List Ty) (Bs : List Bool), (run L As Bs).2.1.length = As.length ∧ (run L As Bs).2.2.length = Bs.length
  | [], As, Bs => by simp [run]
  | (j, u) :: L, As, Bs => by
    simp only [run]
    split
    · split
      · exact run_len L As Bs
      · simp
    · have := run_len L (As.set j.toNat u) (Bs.set j.toNat true)
      simpa using this
def Rel2 (m : Bool × List Ty × List Bool) (o : Option (List (Int × Ty))) (As : List Ty) (Bs : List Bool) : Prop :=
  (o = none → m.1 = false) ∧ ∀ L, o = some L → m.1 = (run L As Bs).1 ∧ (m.1 = true → m = run L As Bs)
mutual
theorem mch_oc (ps : List Int) : ∀ (p t : Ty) (As : List Ty) (Bs : List Bool), Rel2 (mch ps p t As Bs) (oc ps p t) As Bs
  | .mk k id qs, t, As, Bs => by
    cases hp : isPar ps k id with
    | true =>
      rw [mch_par qs t As Bs hp]
      unfold oc
      rw [if_pos hp]
      refine ⟨by simp, fun L hL => ?_⟩
      simp only [Option.some.injEq] at hL
      subst hL
      simp only [run, Int.toNat_natCast]
      by_cases hB : Bs.getD (parI ps id) false = true
      · rw [if_pos hB, if_pos hB]
        by_cases he : eqT (As.getD (parI ps id) zT) t = true
        · rw [if_pos he, he]; simp
        · rw [if_neg he]
          have he : eqT (As.getD (parI ps id) zT) t = false := by simpa using he
          rw [he]; simp
      · rw [if_neg hB, if_neg hB]; simp
    | false =>
      unfold oc
      rw [if_neg (by simp [hp])]
      by_cases hc : t.kd == k ∧ t.id == id ∧ (t.args.length : Int) == qs.length
      · rw [mch_yes qs t As Bs hp hc]
        obtain ⟨h1, h2, h3⟩ := hc
        rw [if_neg (by simp [h1, h2, h3])]
        exact mchL_oc ps qs t.args As Bs
      · rw [mch_no qs t As Bs hp hc]
        have : (if (if !(t.kd == k) then true else !(t.id == id)) then true else !((t.args.length : Int) == qs.length)) = true := by
          cases h1 : (t.kd == k) with
          | false => rfl
          | true =>
            cases h2 : (t.id == id) with
            | false => rfl
            | true =>
              cases h3 : ((t.args.length : Int) == qs.length) with
              | false => rfl
              | true => exact absurd ⟨h1, h2, h3⟩ hc
        rw [if_pos this]
        exact ⟨fun _ => rfl, fun L hL => by cases hL⟩
theorem mchL_oc (ps : List Int) : ∀ (qs ts : List Ty) (As : List Ty) (Bs : List Bool), Rel2 (mchL ps qs ts As Bs) (ocL ps qs ts) As Bs
  | [], ts, As, Bs => by
    simp only [mchL, ocL]
    exact ⟨by simp, fun L hL => by simp only [Option.some.injEq] at hL; subst hL; simp [run]⟩
  | q :: qs, [], As, Bs => by
    simp only [mchL, ocL]
    exact ⟨by simp, fun L hL => by simp only [Option.some.injEq] at hL; subst hL; simp [run]⟩
  | q :: qs, t :: ts, As, Bs => by
    obtain ⟨h1, h2⟩ := mch_oc ps q t As Bs
    simp only [mchL, ocL]
    cases ho : oc ps q t with
    | none =>
      rw [h1 ho, if_neg (by simp)]
      exact ⟨fun _ => rfl, fun L hL => by cases hL⟩
    | some a =>
      obtain ⟨e1, e2⟩ := h2 a ho
      cases hm : (mch ps q t As Bs).1 with
      | false =>
        rw [if_neg (by simp)]
        refine ⟨fun _ => rfl, fun L hL => ?_⟩
        simp only at hL
        cases hb : ocL ps qs ts with
        | none => rw [hb] at hL; cases hL
        | some b =>
          rw [hb] at hL
          simp only [Option.some.injEq] at hL
          subst hL
          rw [run_app, ← e1, hm]
          simp [← e1, hm]
      | true =>
        have e3 := e2 hm
        rw [if_pos rfl]
        obtain ⟨g1, g2⟩ := mchL_oc ps qs ts (mch ps q t As Bs).2.1 (mch ps q t As Bs).2.2
        simp only
        cases hb : ocL ps qs ts with
        | none =>
          refine ⟨fun _ => g1 hb, fun L hL => by cases hL⟩
        | some b =>
          obtain ⟨f1, f2⟩ := g2 b hb
          refine ⟨fun h => (by cases h), fun L hL => ?_⟩
          simp only [Option.some.injEq] at hL
          subst hL
          rw [run_app, ← e1, hm, if_pos rfl, ← e3]
          exact ⟨f1, f2⟩
end
/-- the places are parameters' -/
def PlaceOk (n : Nat) (L : List (Int × Ty)) : Prop := ∀ x ∈ L, 0 ≤ x.1 ∧ x.1.toNat < n
mutual
theorem oc_ok (ps : List Int) : ∀ (p t : Ty) (L : List (Int × Ty)), oc ps p t = some L → PlaceOk ps.length L
  | .mk k id qs, t, L, h => by
    unfold oc at h
    cases hp : isPar ps k id with
    | true =>
      rw [if_pos hp] at h
      simp only [Option.some.injEq] at h
      subst h
      intro x hx
      rw [List.mem_singleton.1 hx]
      exact ⟨by simp, by simpa using par_lt hp⟩
    | false =>
      rw [if_neg (by simp [hp])] at h
      by_cases hc : (if (if !(t.kd == k) then true else !(t.id == id)) then true else !((t.args.length : Int) == qs.length)) = true
      · rw [if_pos hc] at h; cases h
      · rw [if_neg hc] at h
        exact ocL_ok ps qs t.args L h
theorem ocL_ok (ps : List Int) : ∀ (qs ts : List Ty) (L : List (Int × Ty)), ocL ps qs ts = some L → PlaceOk ps.length L
  | [], ts, L, h => by simp only [ocL, Option.some.injEq] at h; subst h; intro x hx; cases hx
  | q :: qs, [], L, h => by simp only [ocL, Option.some.injEq] at h; subst h; intro x hx; cases hx
  | q :: qs, t :: ts, L, h => by
    simp only [ocL] at h
    cases ho : oc ps q t with
    | none => rw [ho] at h; cases h
    | some a =>
      rw [ho] at h
      cases hb : ocL ps qs ts with
      | none => rw [hb] at h; cases h
      | some b =>
        rw [hb] at h
        simp only [Option.some.injEq] at h
        subst h
        intro x hx
        rcases List.mem_append.1 hx with hx | hx
        · exact oc_ok ps q t a ho x hx
        · exact ocL_ok ps qs ts b hb x hx
end
theorem run_ck {n : Nat} : ∀ (L : List (Int × Ty)) (As : List Ty) (Bs : List Bool), As.length = n → Bs.length = n → PlaceOk n L →
    ((run L As Bs).1 = true → ∀ i : Nat, i < n → ck i L (Bs.getD i false) (As.getD i zT) = some ((run L As Bs).2.1.getD i zT)) ∧
    ((run L As Bs).1 = false → ∃ i : Nat, i < n ∧ ck i L (Bs.getD i false) (As.getD i zT) = none)
  | [], As, Bs, hA, hB, hL => by simp [run, ck]
  | (j, u) :: L, As, Bs, hA, hB, hL => by
    obtain ⟨j0, j1⟩ := hL (j, u) (by simp)
    obtain ⟨m, rfl⟩ := Int.eq_ofNat_of_zero_le j0
    simp only [Int.toNat_natCast] at j1
    have hL' : PlaceOk n L := fun x hx => hL x (by simp [hx])
    have hne : ∀ i : Nat, i ≠ m → (((m : Nat) : Int) == (i : Int)) = false := fun i h => by rw [beq_eq_false_iff_ne]; omega
    simp only [run, Int.toNat_natCast]
    cases hb : Bs.getD m false with
    | true =>
      simp only [if_true]
      by_cases he : eqT (As.getD m zT) u = true
      · rw [if_pos he]
        obtain ⟨i1, i2⟩ := run_ck L As Bs hA hB hL'
        have hu := (eqT_iff _ _).1 he
        have step : ∀ i : Nat, ck i (((m : Nat), u) :: L) (Bs.getD i false) (As.getD i zT) = ck i L (Bs.getD i false) (As.getD i zT) := fun i => by
          by_cases him : i = m
          · subst him
            simp only [ck, beq_self_eq_true, Bool.not_true, Bool.false_eq_true, if_false, hb, if_true]
            rw [if_pos ((eqT_iff _ _).2 hu.symm)]
          · simp only [ck, hne i him, Bool.not_false, if_true]
        refine ⟨fun h i hi => ?_, fun h => ?_⟩
        · rw [step]; exact i1 h i hi
        · obtain ⟨i, h1, h2⟩ := i2 h
          exact ⟨i, h1, by rw [step]; exact h2⟩
      · rw [if_neg he]
        refine ⟨fun h => (by cases h), fun _ => ⟨m, j1, ?_⟩⟩
        simp only [ck, beq_self_eq_true, Bool.not_true, Bool.false_eq_true, if_false, hb, if_true]
        rw [if_neg]
        intro h
        rw [(eqT_iff _ _).1 h, eqT_self] at he
        exact he rfl
    | false =>
      simp only [Bool.false_eq_true, if_false]
      obtain ⟨i1, i2⟩ := run_ck L (As.set m u) (Bs.set m true) (by simpa using hA) (by simpa using hB) hL'
      have step : ∀ i : Nat, ck i (((m : Nat), u) :: L) (Bs.getD i false) (As.getD i zT) = ck i L ((Bs.set m true).getD i false) ((As.set m u).getD i zT) := fun i => by
        rw [getD_setB _ _ _ (by omega), getD_setA _ _ _ _ (by omega)]
        by_cases him : i = m
        · subst him
          simp only [ck, beq_self_eq_true, Bool.not_true, Bool.false_eq_true, if_false, hb, if_true]
        · simp only [ck, hne i him, Bool.not_false, if_true]
          rw [if_neg (fun h => him h.symm), if_neg (fun h => him h.symm)]
      refine ⟨fun h i hi => ?_, fun h => ?_⟩
      · rw [step]; exact i1 h i hi
      · obtain ⟨i, h1, h2⟩ := i2 h
        exact ⟨i, h1, by rw [step]; exact h2⟩
theorem rML_some {L : List (Int × Ty)} {xs : List Ty} : ∀ (n i : Nat), (∀ k : Nat, k < n → ck ((i + k : Nat) : Int) L false zT = some (xs.getD (i + k) zT)) → xs.length = i + n → rML L i n = some (xs.drop i)
  | 0, i, _, hl => by simp only [rML]; rw [List.drop_of_length_le (by omega)]
  | n + 1, i, h, hl => by
    have h0 := h 0 (by omega)
    rw [Nat.add_zero] at h0
    simp only [rML, h0]
    rw [rML_some n (i + 1) (fun k hk => by have := h (k + 1) (by omega); rw [show i + 1 + k = i + (k + 1) by omega]; exact this) (by omega)]
    have hi : i < xs.length := by omega
    simp only [List.drop_eq_getElem_cons hi, List.getD_eq_getElem?_getD, List.getElem?_eq_getElem hi]
    rfl
theorem rML_none {L : List (Int × Ty)} : ∀ (n i : Nat), (∃ k : Nat, k < n ∧ ck ((i + k : Nat) : Int) L false zT = none) → rML L i n = none
  | 0, i, ⟨k, h, _⟩ => by omega
  | n + 1, i, ⟨k, h, hk⟩ => by
    simp only [rML]
    cases k with
    | zero => rw [Nat.add_zero] at hk; rw [hk]
    | succ k =>
      cases ck i L false zT with
      | none => rfl
      | some a =>
        simp only
        rw [rML_none n (i + 1) ⟨k, by omega, by rw [show i + 1 + k = i + (k + 1) by omega]; exact hk⟩]
theorem refM_eq (ps : List Int) (t p : Ty) : refM ps t p = matchR ps t p := by
  have hA : (List.replicate ps.length zT).length = ps.length := by simp
  have hB : (List.replicate ps.length false).length = ps.length := by simp
  have gA : ∀ i, (List.replicate ps.length zT).getD i zT = zT := fun i => by
    rw [List.getD_eq_getElem?_getD, List.getElem?_replicate]; split <;> rfl
  have gB : ∀ i, (List.replicate ps.length false).getD i false = false := fun i => by
    rw [List.getD_eq_getElem?_getD, List.getElem?_replicate]; split <;> rfl
  obtain ⟨h1, h2⟩ := mch_oc ps p t (List.replicate ps.length zT) (List.replicate ps.length false)
  unfold refM matchR
  cases ho : oc ps p t with
  | none => rw [h1 ho]; simp
  | some L =>
    obtain ⟨e1, e2⟩ := h2 L ho
    obtain ⟨r1, r2⟩ := run_ck L _ _ hA hB (oc_ok ps p t L ho)
    simp only [gA, gB] at r1 r2
    simp only
    cases hr : (run L (List.replicate ps.length zT) (List.replicate ps.length false)).1 with
    | true =>
      rw [hr] at e1
      rw [e1, e2 e1]
      have hl := (run_len L (List.replicate ps.length zT) (List.replicate ps.length false)).1
      rw [rML_some ps.length 0 (fun k hk => by rw [Nat.zero_add]; exact r1 hr k hk) (by simpa using hl)]
      simp
    | false =>
      rw [hr] at e1
      obtain ⟨i, h3, h4⟩ := r2 hr
      rw [e1, rML_none ps.length 0 ⟨i, h3, by rw [Nat.zero_add]; exact h4⟩]
      simp
/-! ### application -/
mutual
def raT (ps : List Int) (xs : List Ty) : Ty → Ty
  | .mk k id ss => if isPar ps k id then (if decide (parI ps id < xs.length) then xs.getD (parI ps id) zT else .mk k id ss) else .mk k id (raL ps xs ss)
def raL (ps : List Int) (xs : List Ty) : List Ty → List Ty
  | [] => []
  | t :: ts => raT ps xs t :: raL ps xs ts
end
mutual
theorem raT_eq {ps : List Int} {xs : List Ty} (h : ps.length ≤ xs.length) : ∀ t : Ty, raT ps xs t = appT ps xs t
  | .mk k id ss => by
    cases hp : isPar ps k id with
    | true =>
      have hl : parI ps id < xs.length := by have := par_lt hp; omega
      rw [app_par hp hl]
      simp [raT, hp, hl]
    | false =>
      rw [app_not hp]
      simp only [raT, hp, Bool.false_eq_true, if_false, raL_eq h ss]
theorem raL_eq {ps : List Int} {xs : List Ty} (h : ps.length ≤ xs.length) : ∀ ts : List Ty, raL ps xs ts = mapTL (appG ps xs) ts
  | [] => rfl
  | t :: ts => by
    have := raT_eq h t
    simp only [raL, mapTL, raL_eq h ts, this, appT]
end
theorem raL_map (ps : List Int) (xs : List Ty) : ∀ ts : List Ty, raL ps xs ts = ts.map (raT ps xs)
  | [] => rfl
  | t :: ts => by simp [raL, raL_map ps xs ts]
mutual
/-- the places are no more than the pattern's nodes -/
theorem oc_len (ps : List Int) : ∀ (p t : Ty) (L : List (Int × Ty)), oc ps p t = some L → L.length ≤ nds p
  | .mk k id qs, t, L, h => by
    unfold oc at h
    cases hp : isPar ps k id with
    | true =>
      rw [if_pos hp] at h
      simp only [Option.some.injEq] at h
      subst h
      simp [nds]
    | false =>
      rw [if_neg (by simp [hp])] at h
      by_cases hc : (if (if !(t.kd == k) then true else !(t.id == id)) then true else !((t.args.length : Int) == qs.length)) = true
      · rw [if_pos hc] at h; cases h
      · rw [if_neg hc] at h
        have := ocL_len ps qs t.args L h
        simp only [nds]; omega
theorem ocL_len (ps : List Int) : ∀ (qs ts : List Ty) (L : List (Int × Ty)), ocL ps qs ts = some L → L.length ≤ ndsL qs
  | [], ts, L, h => by simp only [ocL, Option.some.injEq] at h; subst h; simp
  | q :: qs, [], L, h => by simp only [ocL, Option.some.injEq] at h; subst h; simp
  | q :: qs, t :: ts, L, h => by
    simp only [ocL] at h
    cases ho : oc ps q t with
    | none => rw [ho] at h; cases h
    | some a =>
      rw [ho] at h
      cases hb : ocL ps qs ts with
      | none => rw [hb] at h; cases h
      | some b =>
        rw [hb] at h
        simp only [Option.some.injEq] at h
        subst h
        have h1 := oc_len ps q t a ho
        have h2 := ocL_len ps qs ts b hb
        simp only [ndsL, List.length_append]; omega
end
end Go.Proofs.Ytbdoblgofddhdaa
