/- M1: joined from Y1. -/
import Derived.Test.YtbdoblgofddhdaaA4
import Derived.Test.YtbdoblgofddhdaaA3
/- Associated types: symbols, what Normalize computes, plain laws. -/
set_option maxRecDepth 10000
set_option linter.unusedSimpArgs false
set_option linter.unusedVariables false
namespace Go.Proofs.Ytbdoblgofddhdaa
open Go Go.Ab
structure Sy where
  kd : Int
  md : Int
  st : Int
  pr : Int
  nm : ByteArray
  pb : PV
def Sy.enc (s : Sy) : PV := .agg [ii s.kd, ii s.md, ii s.st, ii s.pr, .lit (.string s.nm), s.pb]
def encSy (bs : List Sy) : List PV := bs.map Sy.enc
theorem encSy_len (ts : List Sy) : (encSy ts).length = ts.length := by simp [encSy]
theorem encSy_at (ts us : List Sy) (t : Sy) : (encSy (ts ++ t :: us))[ts.length]? = some t.enc := by simp [encSy]
theorem encSy_get {ts : List Sy} {i : Nat} {t : Sy} (h : ts[i]? = some t) : (encSy ts)[i]? = some t.enc := by simp [encSy, h]
theorem pcells_sy (s : Sy) : s.enc.cells = [ii s.kd, ii s.md, ii s.st, ii s.pr, .lit (.string s.nm), s.pb] := rfl
structure Env where
  sy : List Sy
  r1 : PV
  r2 : PV
  ds : List Dc
  az : List Tb
/-- the trait of an associated type -/
def trt (E : Env) (i : Int) : Int :=
  if decide (i < 0) then -1 else match E.sy[i.toNat]? with
    | none => -1
    | some s => if !(s.kd == 13) then -1 else if decide (s.pr < 0) then -1 else match E.sy[s.pr.toNat]? with
      | none => -1
      | some u => if !(u.kd == 5) then -1 else s.pr
def sbE (a b : ByteArray) : Bool := a.toList == b.toList
def isM (p : Int) (nm : ByteArray) (s : Sy) : Bool := if (if s.kd == 13 then s.pr == p else false) then sbE s.nm nm else false
def nmO (E : Env) (i : Int) : ByteArray := match E.sy[i.toNat]? with | none => ByteArray.empty | some s => s.nm
def memI (E : Env) (p : Int) (i : Int) : Int := idxF (isM p (nmO E i)) E.sy 0
mutual
def nrmT (g : Ty → Bool → Ty × Bool) : Ty → Bool → Ty × Bool
  | .mk k id ss, b => if k == 10 then g (.mk k id (nrmL g ss b).1) (nrmL g ss b).2 else (.mk k id (nrmL g ss b).1, (nrmL g ss b).2)
def nrmL (g : Ty → Bool → Ty × Bool) : List Ty → Bool → List Ty × Bool
  | [], b => ([], b)
  | t :: ts, b => ((nrmT g t b).1 :: (nrmL g ts (nrmT g t b).2).1, (nrmL g ts (nrmT g t b).2).2)
end
def dcT (ds : List Dc) (i : Int) : Ty := match ds[i.toNat]? with | none => zT | some d => d.t
def dcP (ds : List Dc) (i : Int) : List Int := match ds[i.toNat]? with | none => [] | some d => d.ps
def arg0 (t : Ty) : Ty := match t.args with | [] => zT | a :: _ => a
def prj (E : Env) : Nat → Ty → Bool → Ty × Bool
  | n, t, b => if decide (trt E t.id < 0) then (zT, true) else if !((t.args.length : Int) == 1) then (zT, true) else
    match sol E.ds E.az 8 (arg0 t) (trt E t.id) with
    | none => (t, b)
    | some p => if decide (p.im < 0) then (t, b) else if decide (memI E p.im t.id < 0) then (zT, b) else
      match n with
      | 0 => (zT, b)
      | n + 1 => nrmT (prj E n) (appT (dcP E.ds p.im) p.az (dcT E.ds (memI E p.im t.id))) b
def nrm (E : Env) : Ty × Bool → Ty × Bool := fun x => nrmT (prj E 8) x.1 x.2
def NR (E : Env) (t : Ty) : Ty := if !((E.ds.length : Int) == E.sy.length) then zT else if (if (nrmT (prj E 8) t false).2 then true else valT (nrmT (prj E 8) t false).1 == 2) then zT else (nrmT (prj E 8) t false).1
/-! ### normal forms -/
def Rg (E : Env) (t : Ty) : Prop := ¬ trt E t.id < 0 ∧ t.args.length = 1 ∧ ∀ p, sol E.ds E.az 8 (arg0 t) (trt E t.id) = some p → p.im < 0
inductive Nf (E : Env) : Ty → Prop
  | mk (k id : Int) (ss : List Ty) : (∀ s ∈ ss, Nf E s) → (k = 10 → Rg E (.mk k id ss)) → Nf E (.mk k id ss)
theorem prj_rg {E : Env} {t : Ty} (h : Rg E t) : ∀ (n : Nat) (b : Bool), prj E n t b = (t, b) := by
  intro n b
  obtain ⟨h1, h2, h3⟩ := h
  unfold prj
  rw [if_neg (by simpa using h1), if_neg (by simp [h2])]
  cases hs : sol E.ds E.az 8 (arg0 t) (trt E t.id) with
  | none => rfl
  | some p => simp only; rw [if_pos (by simpa using h3 p hs)]
mutual
theorem nrm_id {E : Env} (n : Nat) : ∀ (t : Ty) (b : Bool), Nf E t → nrmT (prj E n) t b = (t, b)
  | .mk k id ss, b, h => by
    cases h with
    | mk _ _ _ h1 h2 =>
      have hl := nrmL_id n ss b h1
      unfold nrmT
      rw [hl]
      by_cases hk : k = 10
      · rw [if_pos (by simp [hk])]
        exact prj_rg (h2 hk) n b
      · rw [if_neg (by simp [hk])]
theorem nrmL_id {E : Env} (n : Nat) : ∀ (ts : List Ty) (b : Bool), (∀ s ∈ ts, Nf E s) → nrmL (prj E n) ts b = (ts, b)
  | [], b, _ => rfl
  | t :: ts, b, h => by
    have h1 := nrm_id n t b (h t (by simp))
    have h2 := nrmL_id n ts b fun s hs => h s (by simp [hs])
    simp only [nrmL, h1, h2]
end
theorem nf_zT (E : Env) : Nf E zT := .mk 0 0 [] (by simp) (by simp)
/-- what a function at the projections keeps -/
def Good (E : Env) (g : Ty → Bool → Ty × Bool) : Prop := ∀ t b, (g t b).2 = false → b = false ∧ ((∀ s ∈ t.args, Nf E s) → t.kd = 10 → Nf E (g t b).1)
mutual
theorem nrm_nf {E : Env} {g : Ty → Bool → Ty × Bool} (hg : Good E g) : ∀ (t : Ty) (b : Bool), (nrmT g t b).2 = false → b = false ∧ Nf E (nrmT g t b).1
  | .mk k id ss, b, h => by
    unfold nrmT at h ⊢
    by_cases hk : k = 10
    · rw [if_pos (by simp [hk])] at h ⊢
      obtain ⟨h1, h2⟩ := hg _ _ h
      obtain ⟨h3, h4⟩ := nrmL_nf hg ss b h1
      exact ⟨h3, h2 h4 hk⟩
    · rw [if_neg (by simp [hk])] at h ⊢
      obtain ⟨h3, h4⟩ := nrmL_nf hg ss b h
      exact ⟨h3, .mk k id _ h4 fun h => absurd h hk⟩
theorem nrmL_nf {E : Env} {g : Ty → Bool → Ty × Bool} (hg : Good E g) : ∀ (ts : List Ty) (b : Bool), (nrmL g ts b).2 = false → b = false ∧ ∀ s ∈ (nrmL g ts b).1, Nf E s
  | [], b, h => ⟨h, by simp [nrmL]⟩
  | t :: ts, b, h => by
    simp only [nrmL] at h ⊢
    obtain ⟨h1, h2⟩ := nrmL_nf hg ts _ h
    obtain ⟨h3, h4⟩ := nrm_nf hg t b h1
    refine ⟨h3, fun s hs => ?_⟩
    rcases List.mem_cons.1 hs with rfl | hs
    · exact h4
    · exact h2 s hs
end
theorem prj_good (E : Env) : ∀ n : Nat, Good E (prj E n) := by
  intro n
  induction n with
  | zero =>
    intro t b h
    unfold prj at h ⊢
    by_cases h1 : decide (trt E t.id < 0) = true
    · rw [if_pos h1] at h; cases h
    rw [if_neg h1] at h ⊢
    by_cases h2 : (!((t.args.length : Int) == 1)) = true
    · rw [if_pos h2] at h; cases h
    rw [if_neg h2] at h ⊢
    have hl : t.args.length = 1 := by simp at h2; omega
    have hrg : (∀ p, sol E.ds E.az 8 (arg0 t) (trt E t.id) = some p → p.im < 0) → (∀ s ∈ t.args, Nf E s) → t.kd = 10 → Nf E t := fun hp ha hk => by
      cases t with
      | mk k id ss => exact .mk k id ss ha fun _ => ⟨by simpa using h1, hl, hp⟩
    cases hs : sol E.ds E.az 8 (arg0 t) (trt E t.id) with
    | none =>
      rw [hs] at h
      exact ⟨h, hrg (fun p hp => by rw [hs] at hp; cases hp)⟩
    | some p =>
      rw [hs] at h
      simp only at h ⊢
      by_cases h3 : decide (p.im < 0) = true
      · rw [if_pos h3] at h ⊢
        exact ⟨h, hrg (fun q hq => by rw [hs] at hq; cases hq; simpa using h3)⟩
      rw [if_neg h3] at h ⊢
      by_cases h4 : decide (memI E p.im t.id < 0) = true
      · rw [if_pos h4] at h ⊢; exact ⟨h, fun _ _ => nf_zT E⟩
      · rw [if_neg h4] at h ⊢; exact ⟨h, fun _ _ => nf_zT E⟩
  | succ n ih =>
    intro t b h
    unfold prj at h ⊢
    by_cases h1 : decide (trt E t.id < 0) = true
    · rw [if_pos h1] at h; cases h
    rw [if_neg h1] at h ⊢
    by_cases h2 : (!((t.args.length : Int) == 1)) = true
    · rw [if_pos h2] at h; cases h
    rw [if_neg h2] at h ⊢
    have hl : t.args.length = 1 := by simp at h2; omega
    have hrg : (∀ p, sol E.ds E.az 8 (arg0 t) (trt E t.id) = some p → p.im < 0) → (∀ s ∈ t.args, Nf E s) → t.kd = 10 → Nf E t := fun hp ha hk => by
      cases t with
      | mk k id ss => exact .mk k id ss ha fun _ => ⟨by simpa using h1, hl, hp⟩
    cases hs : sol E.ds E.az 8 (arg0 t) (trt E t.id) with
    | none =>
      rw [hs] at h
      exact ⟨h, hrg (fun p hp => by rw [hs] at hp; cases hp)⟩
    | some p =>
      rw [hs] at h
      simp only at h ⊢
      by_cases h3 : decide (p.im < 0) = true
      · rw [if_pos h3] at h ⊢
        exact ⟨h, hrg (fun q hq => by rw [hs] at hq; cases hq; simpa using h3)⟩
      rw [if_neg h3] at h ⊢
      by_cases h4 : decide (memI E p.im t.id < 0) = true
      · rw [if_pos h4] at h ⊢; exact ⟨h, fun _ _ => nf_zT E⟩
      · rw [if_neg h4] at h ⊢
        obtain ⟨e1, e2⟩ := nrm_nf ih _ _ h
        exact ⟨e1, fun _ _ => e2⟩
/-! ### the laws -/
mutual
def cPr : Ty → Bool
  | .mk k _ ss => if k == 10 then true else cPrL ss
def cPrL : List Ty → Bool
  | [] => false
  | t :: ts => if cPr t then true else cPrL ts
end
mutual
def cEr : Ty → Bool
  | .mk k _ ss => if k == 0 then true else cErL ss
def cErL : List Ty → Bool
  | [] => false
  | t :: ts => if cEr t then true else cErL ts
end
mutual
theorem nf_cPr (E : Env) : ∀ t : Ty, cPr t = false → Nf E t
  | .mk k id ss, h => by
    unfold cPr at h
    by_cases hk : k = 10
    · rw [if_pos (by simp [hk])] at h; cases h
    · rw [if_neg (by simp [hk])] at h
      exact .mk k id ss (nf_cPrL E ss h) fun h => absurd h hk
theorem nf_cPrL (E : Env) : ∀ ts : List Ty, cPrL ts = false → ∀ s ∈ ts, Nf E s
  | [], _ => by simp
  | t :: ts, h => by
    unfold cPrL at h
    by_cases hc : cPr t = true
    · rw [if_pos hc] at h; cases h
    · rw [if_neg hc] at h
      intro s hs
      rcases List.mem_cons.1 hs with hs | hs
      · rw [hs]; exact nf_cPr E t (by simpa using hc)
      · exact nf_cPrL E ts h s hs
end
theorem cEr_zT : cEr zT = true := rfl
theorem NR_nf {E : Env} {t : Ty} (hl : E.ds.length = E.sy.length) (hn : Nf E t) (hv : valT t ≠ 2) : NR E t = t := by
  unfold NR
  rw [if_neg (by simp [hl]), nrm_id 8 t false hn]
  rw [if_neg (by simp [hv])]
theorem law17a {E : Env} {t : Ty} (hl : E.ds.length = E.sy.length) (h1 : cPr t = false) (h2 : valT t = 0) : NR E t = t := NR_nf hl (nf_cPr E t h1) (by omega)
theorem law17b {E : Env} {t : Ty} (hl : E.ds.length = E.sy.length) (h : cEr (NR E t) = false) : NR E (NR E t) = NR E t := by
  unfold NR at h
  rw [if_neg (by simp [hl])] at h
  by_cases hc : (if (nrmT (prj E 8) t false).2 then true else valT (nrmT (prj E 8) t false).1 == 2) = true
  · rw [if_pos hc] at h; rw [cEr_zT] at h; cases h
  · rw [if_neg hc] at h
    have e : NR E t = (nrmT (prj E 8) t false).1 := by unfold NR; rw [if_neg (by simp [hl]), if_neg hc]
    have hf : (nrmT (prj E 8) t false).2 = false := by
      cases hx : (nrmT (prj E 8) t false).2 with
      | false => rfl
      | true => rw [hx] at hc; simp at hc
    rw [hf] at hc
    have hv : valT (nrmT (prj E 8) t false).1 ≠ 2 := by simpa using hc
    rw [e]
    exact NR_nf hl (nrm_nf (prj_good E 8) t false hf).2 hv
theorem nrmL_split {g : Ty → Bool → Ty × Bool} {E : Env} (hg : Good E g) : ∀ (ts : List Ty), (nrmL g ts false).2 = false → (nrmL g ts false).1 = ts.map (fun s => (nrmT g s false).1) ∧ ∀ s ∈ ts, (nrmT g s false).2 = false
  | [], _ => by simp [nrmL]
  | t :: ts, h => by
    simp only [nrmL] at h ⊢
    obtain ⟨h1, _⟩ := nrmL_nf hg ts _ h
    rw [h1] at h ⊢
    obtain ⟨h3, h4⟩ := nrmL_split hg ts h
    refine ⟨by simp [h3], fun s hs => ?_⟩
    rcases List.mem_cons.1 hs with rfl | hs
    · exact h1
    · exact h4 s hs
theorem cErL_mem : ∀ {ts : List Ty} {s : Ty}, cErL ts = false → s ∈ ts → cEr s = false
  | t :: ts, s, h, hs => by
    unfold cErL at h
    by_cases hc : cEr t = true
    · rw [if_pos hc] at h; cases h
    · rw [if_neg hc] at h
      rcases List.mem_cons.1 hs with rfl | hs
      · simpa using hc
      · exact cErL_mem h hs
theorem law18 {E : Env} {k id : Int} {ss : List Ty} (hl : E.ds.length = E.sy.length) (hk : k ≠ 10) (h1 : cEr (NR E (.mk k id ss)) = false) (h2 : cEr (.mk k id (ss.map (NR E))) = false) : NR E (.mk k id ss) = .mk k id (ss.map (NR E)) := by
  unfold NR at h1
  rw [if_neg (by simp [hl])] at h1
  by_cases hc : (if (nrmT (prj E 8) (.mk k id ss) false).2 then true else valT (nrmT (prj E 8) (.mk k id ss) false).1 == 2) = true
  · rw [if_pos hc] at h1; rw [cEr_zT] at h1; cases h1
  have e : NR E (.mk k id ss) = (nrmT (prj E 8) (.mk k id ss) false).1 := by unfold NR; rw [if_neg (by simp [hl]), if_neg hc]
  have hf : (nrmT (prj E 8) (.mk k id ss) false).2 = false := by
    cases hx : (nrmT (prj E 8) (.mk k id ss) false).2 with
    | false => rfl
    | true => rw [hx] at hc; simp at hc
  rw [e]
  unfold nrmT at hf ⊢
  rw [if_neg (by simp [hk])] at hf ⊢
  obtain ⟨h3, h4⟩ := nrmL_split (prj_good E 8) ss hf
  simp only
  rw [h3]
  unfold cEr at h2
  by_cases hk0 : k = 0
  · rw [if_pos (by simp [hk0])] at h2; cases h2
  rw [if_neg (by simp [hk0])] at h2
  congr 1
  refine List.map_congr_left fun s hs => ?_
  have hes := cErL_mem h2 (List.mem_map.2 ⟨s, hs, rfl⟩)
  unfold NR at hes ⊢
  rw [if_neg (by simp [hl])] at hes ⊢
  by_cases hcs : (if (nrmT (prj E 8) s false).2 then true else valT (nrmT (prj E 8) s false).1 == 2) = true
  · rw [if_pos hcs] at hes; rw [cEr_zT] at hes; cases hes
  · rw [if_neg hcs]
end Go.Proofs.Ytbdoblgofddhdaa
