/- Q1: joined from Q1. -/
import Derived.Test.YtbdoblgofddhdaaX1
/- Exhaustiveness: domains, patterns (trees of kind, number, arguments), what the matrix functions compute. -/
set_option maxRecDepth 10000
set_option linter.unusedSimpArgs false
set_option linter.unusedVariables false
namespace Go.Proofs.Ytbdoblgofddhdaa
open Go Go.Ab
structure Vr where
  id : Int
  fs : List Int
structure Dm where
  k : Int
  vs : List Vr
def wT : Ty := .mk 0 0 []
mutual
/-- does the value match the pattern? -/
def mt : Ty → Ty → Bool
  | .mk k id az, v => if k == 0 then true else if k == v.kd then if id == v.id then mtL az v.args else false else false
def mtL : List Ty → List Ty → Bool
  | [], [] => true
  | [], _ :: _ => false
  | _ :: _, [] => false
  | p :: ps, v :: vs => if mt p v then mtL ps vs else false
end
def vfind (id : Int) : List Vr → Option Vr
  | [] => none
  | v :: vs => if v.id == id then some v else vfind id vs
mutual
def conf (ds : List Dm) : Ty → Int → Bool
  | .mk k id az, c => match ds[c.toNat]? with
    | none => false
    | some d => if k == 0 then (if id == 0 then az.length == 0 else false) else if !(k == d.k) then false
      else if k == 2 then az.length == 0 else if k == 3 then (if (if id == 0 then true else id == 1) then az.length == 0 else false)
      else match vfind id d.vs with
        | none => false
        | some v => if v.fs.length == az.length then confL ds az v.fs else false
def confL (ds : List Dm) : List Ty → List Int → Bool
  | [], [] => true
  | [], _ :: _ => false
  | _ :: _, [] => false
  | p :: ps, c :: cs => if conf ds p c then confL ds ps cs else false
end
/-- the rows that can match a constructor -/
def spc (k id : Int) (n : Nat) : List (List Ty) → List (List Ty)
  | [] => []
  | [] :: rows => spc k id n rows
  | (p :: r) :: rows => if p.kd == 0 then (List.replicate n wT ++ r) :: spc k id n rows else if (if p.kd == k then p.id == id else false) then (p.args ++ r) :: spc k id n rows else spc k id n rows
def ctr : List (List Ty) → List Ty → List Ty
  | [], us => us
  | [] :: rows, us => ctr rows us
  | (p :: _) :: rows, us => ctr rows (if (if p.kd == 0 then false else !(us.any fun q => q.id == p.id)) then us ++ [p] else us)
def hasId (us : List Ty) (n : Int) : Bool := us.any fun q => q.id == n
/-- the least number from n on that is not used -/
def freeN (us : List Ty) : Nat → Int → Int
  | 0, n => n
  | k + 1, n => if hasId us n then freeN us k (n + 1) else n
def freeV (us : List Ty) : List Vr → Option Vr
  | [] => none
  | v :: vs => if hasId us v.id then freeV us vs else some v
def absn (d : Dm) (us : List Ty) : Option Ty :=
  if us.length == 0 then some wT
  else if d.k == 2 then some (.mk 2 (freeN us us.length 0) [])
  else if d.k == 3 then (if !hasId us 0 then some (.mk 3 0 []) else if !hasId us 1 then some (.mk 3 1 []) else none)
  else match freeV us d.vs with
    | none => none
    | some v => some (.mk 1 v.id (List.replicate v.fs.length wT))
def flds (d : Dm) (p : Ty) : List Int := if p.kd == 1 then (match vfind p.id d.vs with | some v => v.fs | none => []) else []
def dfl (rows : List (List Ty)) : List (List Ty) := spc (-1) 0 0 rows
def misL (f : List Int → List (List Ty) → Option (List Ty)) (d : Dm) (cs : List Int) (rows : List (List Ty)) : List Ty → Option (List Ty)
  | [] => none
  | p :: us => match f (flds d p ++ cs) (spc p.kd p.id (flds d p).length rows) with
    | some row => some (.mk p.kd p.id (row.take (flds d p).length) :: row.drop (flds d p).length)
    | none => misL f d cs rows us
def mis (ds : List Dm) : Nat → List Int → List (List Ty) → Option (List Ty)
  | 0, _, _ => none
  | _ + 1, [], rows => if rows.length == 0 then some [] else none
  | n + 1, c :: cs, rows => match ds[c.toNat]? with
    | none => none
    | some d => match absn d (ctr rows []) with
      | none => misL (mis ds n) d cs rows (ctr rows [])
      | some p => match mis ds n cs (dfl rows) with
        | some r => some (p :: r)
        | none => misL (mis ds n) d cs rows (ctr rows [])
def useL (f : List Int → List (List Ty) → List Ty → Bool) (d : Dm) (cs : List Int) (rows : List (List Ty)) (r : List Ty) : List Ty → Bool
  | [] => false
  | q :: us => if f (flds d q ++ cs) (spc q.kd q.id (flds d q).length rows) (List.replicate (flds d q).length wT ++ r) then true else useL f d cs rows r us
def useA (f : List Int → List (List Ty) → List Ty → Bool) (d : Dm) (cs : List Int) (rows : List (List Ty)) (r : List Ty) : Bool :=
  match absn d (ctr rows []) with
  | none => false
  | some _ => f cs (dfl rows) r
def use (ds : List Dm) : Nat → List Int → List (List Ty) → List Ty → Bool
  | 0, _, _, _ => false
  | _ + 1, [], rows, _ => rows.length == 0
  | _ + 1, _ :: _, _, [] => false
  | n + 1, c :: cs, rows, p :: r => match ds[c.toNat]? with
    | none => false
    | some d => if !(p.kd == 0) then use ds n (flds d p ++ cs) (spc p.kd p.id (flds d p).length rows) (p.args ++ r)
      else if useA (use ds n) d cs rows r then true
      else useL (use ds n) d cs rows r (ctr rows [])
mutual
def cn : Ty → Nat
  | .mk k _ az => (if k == 0 then 0 else 1) + cnL az
def cnL : List Ty → Nat
  | [] => 0
  | p :: ps => cn p + cnL ps
end
def cnR (rows : List (List Ty)) : Nat := (rows.map cnL).sum
/-! ### what it means -/
mutual
inductive VT (ds : List Dm) : Ty → Int → Prop
  | any (c : Int) (d : Dm) : ds[c.toNat]? = some d → d.k = 0 → VT ds (.mk 0 0 []) c
  | int (c : Int) (d : Dm) (n : Int) : ds[c.toNat]? = some d → d.k = 2 → VT ds (.mk 2 n []) c
  | bool (c : Int) (d : Dm) (n : Int) : ds[c.toNat]? = some d → d.k = 3 → (n = 0 ∨ n = 1) → VT ds (.mk 3 n []) c
  | vr (c : Int) (d : Dm) (v : Vr) (az : List Ty) : ds[c.toNat]? = some d → d.k = 1 → vfind v.id d.vs = some v → VTL ds az v.fs → VT ds (.mk 1 v.id az) c
inductive VTL (ds : List Dm) : List Ty → List Int → Prop
  | nil : VTL ds [] []
  | cons (v : Ty) (vs : List Ty) (c : Int) (cs : List Int) : VT ds v c → VTL ds vs cs → VTL ds (v :: vs) (c :: cs)
end
/-- the domains are in order -/
structure DsOk (ds : List Dm) : Prop where
  kinds : ∀ d ∈ ds, d.k = 0 ∨ d.k = 1 ∨ d.k = 2 ∨ d.k = 3
  flat : ∀ d ∈ ds, d.k ≠ 1 → d.vs = []
  uniq : ∀ d ∈ ds, ∀ v ∈ d.vs, vfind v.id d.vs = some v
  arity : ∀ d ∈ ds, ∀ v ∈ d.vs, v.fs.length ≤ 4
theorem vfind_mem {id : Int} : ∀ {vs : List Vr} {v : Vr}, vfind id vs = some v → v ∈ vs ∧ v.id = id
  | [], v, h => by simp [vfind] at h
  | w :: vs, v, h => by
    simp only [vfind] at h
    split at h
    · rename_i e; cases h; exact ⟨by simp, by simpa using e⟩
    · obtain ⟨h1, h2⟩ := vfind_mem h; exact ⟨by simp [h1], h2⟩
theorem mtL_len : ∀ {ps vs : List Ty}, mtL ps vs = true → ps.length = vs.length
  | [], [], _ => rfl
  | [], _ :: _, h => by simp [mtL] at h
  | _ :: _, [], h => by simp [mtL] at h
  | p :: ps, v :: vs, h => by
    simp only [mtL] at h
    split at h
    · simp [mtL_len h]
    · cases h
theorem confL_len {ds : List Dm} : ∀ {ps : List Ty} {cs : List Int}, confL ds ps cs = true → ps.length = cs.length
  | [], [], _ => rfl
  | [], _ :: _, h => by simp [confL] at h
  | _ :: _, [], h => by simp [confL] at h
  | p :: ps, v :: vs, h => by
    simp only [confL] at h
    split at h
    · simp [confL_len h]
    · cases h
theorem VTL_len {ds : List Dm} : ∀ {ps : List Ty} {cs : List Int}, VTL ds ps cs → ps.length = cs.length
  | [], [], _ => rfl
  | _ :: _, _ :: _, .cons _ _ _ _ _ h => by simp [VTL_len h]
theorem mtL_app : ∀ {ps qs vs ws : List Ty}, ps.length = vs.length → mtL (ps ++ qs) (vs ++ ws) = (mtL ps vs && mtL qs ws)
  | [], qs, [], ws, _ => by simp [mtL]
  | [], _, _ :: _, _, h => by simp at h
  | _ :: _, _, [], _, h => by simp at h
  | p :: ps, qs, v :: vs, ws, h => by
    simp only [List.cons_append, mtL, mtL_app (ps := ps) (vs := vs) (by simpa using h)]
    cases mt p v <;> simp
theorem confL_app {ds : List Dm} : ∀ {ps qs : List Ty} {cs es : List Int}, ps.length = cs.length → confL ds (ps ++ qs) (cs ++ es) = (confL ds ps cs && confL ds qs es)
  | [], qs, [], ws, _ => by simp [confL]
  | [], _, _ :: _, _, h => by simp at h
  | _ :: _, _, [], _, h => by simp at h
  | p :: ps, qs, v :: vs, ws, h => by
    simp only [List.cons_append, confL, confL_app (ps := ps) (cs := vs) (by simpa using h)]
    cases conf ds p v <;> simp
theorem mtL_wild : ∀ (n : Nat) (vs : List Ty), mtL (List.replicate n wT) vs = (vs.length == n)
  | 0, [] => rfl
  | 0, _ :: _ => by simp [mtL]
  | n + 1, [] => by simp [List.replicate_succ, mtL]
  | n + 1, v :: vs => by
    simp only [List.replicate_succ, mtL, wT, mt, beq_self_eq_true, if_true, List.length_cons]
    have := mtL_wild n vs
    rw [wT] at this; rw [this]
    cases h : (vs.length == n) <;> simp_all
theorem mt_wild (v : Ty) : mt wT v = true := by simp [wT, mt]
theorem mt_kd0 {p v : Ty} (h : p.kd = 0) : mt p v = true := by
  cases p; simp only [Ty.kd] at h; subst h; simp [mt]
theorem mt_ne0 {p v : Ty} (h : p.kd ≠ 0) : mt p v = (if p.kd == v.kd then if p.id == v.id then mtL p.args v.args else false else false) := by
  cases p with
  | mk k id az =>
    simp only [Ty.kd] at h
    simp [mt, h, Ty.kd, Ty.id, Ty.args]
theorem mtL_cons (p : Ty) (ps : List Ty) (v : Ty) (vs : List Ty) : mtL (p :: ps) (v :: vs) = (mt p v && mtL ps vs) := by
  simp only [mtL]; cases mt p v <;> rfl
theorem confL_cons {ds : List Dm} (p : Ty) (ps : List Ty) (c : Int) (cs : List Int) : confL ds (p :: ps) (c :: cs) = (conf ds p c && confL ds ps cs) := by
  simp only [confL]; cases conf ds p c <;> rfl
/-- the rows of a specialized matrix -/
theorem mem_spc {k id : Int} {n : Nat} {r' : List Ty} : ∀ {rows : List (List Ty)}, r' ∈ spc k id n rows ↔
    (∃ p r, (p :: r) ∈ rows ∧ p.kd = 0 ∧ r' = List.replicate n wT ++ r) ∨ ∃ p r, (p :: r) ∈ rows ∧ p.kd ≠ 0 ∧ p.kd = k ∧ p.id = id ∧ r' = p.args ++ r
  | [] => by simp [spc]
  | [] :: rows => by simp [spc, mem_spc (rows := rows)]
  | (p :: r) :: rows => by
    have ih := mem_spc (k := k) (id := id) (n := n) (r' := r') (rows := rows)
    simp only [spc]
    by_cases h0 : p.kd = 0
    · simp only [h0, beq_self_eq_true, if_true, List.mem_cons, ih]
      constructor
      · rintro (h | ⟨q, s, h1, h2, h3⟩ | ⟨q, s, h1, h2, h3⟩)
        · exact .inl ⟨p, r, .inl rfl, h0, h⟩
        · exact .inl ⟨q, s, .inr h1, h2, h3⟩
        · exact .inr ⟨q, s, .inr h1, h2, h3⟩
      · rintro (⟨q, s, h1 | h1, h2, h3⟩ | ⟨q, s, h1 | h1, h2, h3⟩)
        · cases h1; exact .inl h3
        · exact .inr (.inl ⟨q, s, h1, h2, h3⟩)
        · cases h1; exact absurd h0 h2
        · exact .inr (.inr ⟨q, s, h1, h2, h3⟩)
    · by_cases h1 : p.kd = k ∧ p.id = id
      · have hc : (if p.kd == k then p.id == id else false) = true := by simp [h1.1, h1.2]
        rw [if_neg (by simpa using h0), if_pos hc]
        simp only [List.mem_cons, ih]
        constructor
        · rintro (h | ⟨q, s, h1, h2, h3⟩ | ⟨q, s, h1, h2, h3⟩)
          · exact .inr ⟨p, r, .inl rfl, h0, h1.1, h1.2, h⟩
          · exact .inl ⟨q, s, .inr h1, h2, h3⟩
          · exact .inr ⟨q, s, .inr h1, h2, h3⟩
        · rintro (⟨q, s, h1 | h1, h2, h3⟩ | ⟨q, s, h1 | h1, h2, h3, h4, h5⟩)
          · cases h1; exact absurd h2 h0
          · exact .inr (.inl ⟨q, s, h1, h2, h3⟩)
          · cases h1; exact .inl h5
          · exact .inr (.inr ⟨q, s, h1, h2, h3, h4, h5⟩)
      · have hc : ¬ (if p.kd == k then p.id == id else false) = true := by
          intro h; apply h1
          split at h
          · rename_i e; exact ⟨by simpa using e, by simpa using h⟩
          · cases h
        rw [if_neg (by simpa using h0), if_neg hc, ih]
        constructor
        · rintro (⟨q, s, h1, h2, h3⟩ | ⟨q, s, h1, h2, h3⟩)
          · exact .inl ⟨q, s, by simp [h1], h2, h3⟩
          · exact .inr ⟨q, s, by simp [h1], h2, h3⟩
        · rintro (⟨q, s, hm, h2, h3⟩ | ⟨q, s, hm, h2, h3, h4, h5⟩)
          · rcases List.mem_cons.1 hm with hm | hm
            · cases hm; exact absurd h2 h0
            · exact .inl ⟨q, s, hm, h2, h3⟩
          · rcases List.mem_cons.1 hm with hm | hm
            · cases hm; exact absurd ⟨h3, h4⟩ h1
            · exact .inr ⟨q, s, hm, h2, h3, h4, h5⟩
/-- the constructors of the first column -/
theorem ctr_mem {u : Ty} : ∀ {rows : List (List Ty)} {us : List Ty}, u ∈ ctr rows us → u ∈ us ∨ ∃ r, (u :: r) ∈ rows ∧ u.kd ≠ 0
  | [], us, h => .inl h
  | [] :: rows, us, h => by
    rcases ctr_mem (rows := rows) (by simpa [ctr] using h) with h | ⟨r, h1, h2⟩
    · exact .inl h
    · exact .inr ⟨r, by simp [h1], h2⟩
  | (p :: r) :: rows, us, h => by
    simp only [ctr] at h
    rcases ctr_mem h with h | ⟨r', h1, h2⟩
    · by_cases hc : (if p.kd == 0 then false else !(us.any fun q => q.id == p.id)) = true
      · rw [if_pos hc] at h
        rcases List.mem_append.1 h with h | h
        · exact .inl h
        · simp only [List.mem_singleton] at h
          subst h
          refine .inr ⟨r, by simp, fun e => ?_⟩
          rw [e] at hc; simp at hc
      · rw [if_neg hc] at h; exact .inl h
    · exact .inr ⟨r', by simp [h1], h2⟩
theorem ctr_mono {n : Int} : ∀ {rows : List (List Ty)} {us : List Ty}, hasId us n = true → hasId (ctr rows us) n = true
  | [], us, h => h
  | [] :: rows, us, h => by simpa [ctr] using ctr_mono (rows := rows) h
  | (p :: r) :: rows, us, h => by
    simp only [ctr]
    refine ctr_mono (rows := rows) ?_
    by_cases hc : (if p.kd == 0 then false else !(us.any fun q => q.id == p.id)) = true
    · rw [if_pos hc]; unfold hasId at h ⊢; rw [List.any_append, h]; rfl
    · rw [if_neg hc]; exact h
theorem ctr_all {p : Ty} {r : List Ty} : ∀ {rows : List (List Ty)} {us : List Ty}, (p :: r) ∈ rows → p.kd ≠ 0 → hasId (ctr rows us) p.id = true
  | [], us, h, _ => by cases h
  | [] :: rows, us, h, h0 => by
    simp only [ctr]
    exact ctr_all (rows := rows) (by simpa using h) h0
  | (q :: s) :: rows, us, h, h0 => by
    simp only [ctr]
    rcases List.mem_cons.1 h with h | h
    · cases h
      refine ctr_mono (rows := rows) ?_
      have e0 : (p.kd == 0) = false := by simpa using h0
      simp only [e0, Bool.false_eq_true, if_false]
      cases hh : us.any fun q => q.id == p.id with
      | true => simpa [hasId] using hh
      | false =>
        simp only [Bool.not_false, if_true]
        unfold hasId; rw [List.any_append]; simp
    · exact ctr_all h h0
end Go.Proofs.Ytbdoblgofddhdaa
