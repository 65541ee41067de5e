/- A4: joined from V1. -/
import Derived.Test.YtbdoblgofddhdaaFnU
import Derived.Test.YtbdoblgofddhdaaA2
/- Traits: declarations, proofs, what Solve and CheckProof compute; plain laws. -/
set_option maxRecDepth 10000
set_option linter.unusedSimpArgs false
set_option linter.unusedVariables false
namespace Go.Proofs.Ytbdoblgofddhdaa
open Go Go.Ab
structure Tb where
  t : Ty
  tr : Int
structure Dc where
  ps : List Int
  t : Ty
  tr : Int
  bs : List Tb
  ms : PV
def Tb.enc (b : Tb) : PV := .agg [ii b.t.kd, ii b.t.id, .list 3 (encL b.t.args), ii b.tr]
def encTb (bs : List Tb) : List PV := bs.map Tb.enc
theorem encTb_len (ts : List Tb) : (encTb ts).length = ts.length := by simp [encTb]
theorem encTb_at (ts us : List Tb) (t : Tb) : (encTb (ts ++ t :: us))[ts.length]? = some t.enc := by simp [encTb]
theorem encTb_get {ts : List Tb} {i : Nat} {t : Tb} (h : ts[i]? = some t) : (encTb ts)[i]? = some t.enc := by simp [encTb, h]
theorem pcells_tb (b : Tb) : b.enc.cells = [ii b.t.kd, ii b.t.id, .list 3 (encL b.t.args), ii b.tr] := rfl
def Dc.enc (d : Dc) : PV := .agg [.list 1 (encI d.ps), ii d.t.kd, ii d.t.id, .list 3 (encL d.t.args), ii d.tr, .list 4 (encTb d.bs), d.ms]
def encDc (bs : List Dc) : List PV := bs.map Dc.enc
theorem encDc_len (ts : List Dc) : (encDc ts).length = ts.length := by simp [encDc]
theorem encDc_at (ts us : List Dc) (t : Dc) : (encDc (ts ++ t :: us))[ts.length]? = some t.enc := by simp [encDc]
theorem encDc_get {ts : List Dc} {i : Nat} {t : Dc} (h : ts[i]? = some t) : (encDc ts)[i]? = some t.enc := by simp [encDc, h]
theorem pcells_dc (d : Dc) : d.enc.cells = [.list 1 (encI d.ps), ii d.t.kd, ii d.t.id, .list 3 (encL d.t.args), ii d.tr, .list 4 (encTb d.bs), d.ms] := rfl
inductive Prf where
  | mk (t : Ty) (tr im bd : Int) (az : List Ty) (ps : List Prf)
mutual
def Prf.enc : Prf → PV
  | .mk t tr im bd az ps => .agg [ii t.kd, ii t.id, .list 3 (encL t.args), ii tr, ii im, ii bd, .list 3 (encL az), .list 8 (encPf ps)]
def encPf : List Prf → List PV
  | [] => []
  | p :: ps => p.enc :: encPf ps
end
theorem encPf_map (ts : List Prf) : encPf ts = ts.map Prf.enc := by induction ts with
  | nil => rfl
  | cons t ts ih => simp [encPf, ih]
theorem encPf_app (ts us : List Prf) : encPf (ts ++ us) = encPf ts ++ encPf us := by simp [encPf_map]
theorem encPf_len (ts : List Prf) : (encPf ts).length = ts.length := by simp [encPf_map]
theorem encPf_at (ts us : List Prf) (t : Prf) : (encPf (ts ++ t :: us))[ts.length]? = some t.enc := by simp [encPf_map]
theorem encPf_get {ts : List Prf} {i : Nat} {t : Prf} (h : ts[i]? = some t) : (encPf ts)[i]? = some t.enc := by simp [encPf_map, h]
def Prf.t : Prf → Ty | .mk t _ _ _ _ _ => t
def Prf.tr : Prf → Int | .mk _ t _ _ _ _ => t
def Prf.im : Prf → Int | .mk _ _ t _ _ _ => t
def Prf.bd : Prf → Int | .mk _ _ _ t _ _ => t
def Prf.az : Prf → List Ty | .mk _ _ _ _ t _ => t
def Prf.ps : Prf → List Prf | .mk _ _ _ _ _ t => t
theorem encp_eq (p : Prf) : p.enc = .agg [ii p.t.kd, ii p.t.id, .list 3 (encL p.t.args), ii p.tr, ii p.im, ii p.bd, .list 3 (encL p.az), .list 8 (encPf p.ps)] := by cases p; rfl
def Prf.tc (p : Prf) : List V := [.pv (ii p.t.kd), .pv (ii p.t.id), .pv (.list 3 (encL p.t.args)), .pv (ii p.tr), .pv (ii p.im), .pv (ii p.bd), .pv (.list 3 (encL p.az)), .pv (.list 8 (encPf p.ps))]
theorem cells_prf (p : Prf) : (V.pv p.enc).cells? = some p.tc := by cases p; rfl
theorem pcells_prf (p : Prf) : p.enc.cells = [ii p.t.kd, ii p.t.id, .list 3 (encL p.t.args), ii p.tr, ii p.im, ii p.bd, .list 3 (encL p.az), .list 8 (encPf p.ps)] := by cases p; rfl
def zP : Prf := .mk zT 0 0 0 [] []
/-! ### what is computed -/
def okD (t : Ty) (tr : Int) (d : Dc) : Bool := if !(d.tr == tr) then false else if d.ps.any (fun p => !occP p d.t) then false else (matchR d.ps t d.t).1
def mImp (t : Ty) (tr : Int) : List Dc → Nat → Option (Nat × List Ty)
  | [], _ => none
  | d :: ds, i => if okD t tr d then some (i, (matchR d.ps t d.t).2) else mImp t tr ds (i + 1)
def bdF (az : List Tb) (t : Ty) (tr : Int) : Int := idxF (fun b : Tb => if b.tr == tr then eqT b.t t else false) az 0
def solL (f : Ty → Int → Option Prf) (ps : List Int) (xs : List Ty) : List Tb → Option (List Prf)
  | [] => some []
  | b :: bs => match f (appT ps xs b.t) b.tr with
    | none => none
    | some p => match solL f ps xs bs with
      | none => none
      | some ps => some (p :: ps)
def sol (ds : List Dc) (az : List Tb) : Nat → Ty → Int → Option Prf
  | 0, _, _ => none
  | n + 1, t, tr => if t.kd == 0 then none else if decide (tr < 0) then none else
    if decide (bdF az t tr ≥ 0) then some (.mk t tr (-1) (bdF az t tr) [] []) else
    match mImp t tr ds 0 with
    | none => none
    | some (i, xs) => match ds[i]? with
      | none => none
      | some d => if decide ((d.bs.length : Int) > 4) then none else match solL (sol ds az n) d.ps xs d.bs with
        | none => none
        | some ps => some (.mk t tr i (-1) xs ps)
mutual
def chk (ds : List Dc) (az : List Tb) : Prf → Bool
  | .mk t tr im bd xs ps =>
    if im == -1 then
      if (if (if (if decide (bd < 0) then true else decide (bd ≥ (az.length : Int))) then true else decide ((xs.length : Int) > 0)) then true else decide ((ps.length : Int) > 0)) then false
      else match az[bd.toNat]? with
        | none => false
        | some b => if b.tr == tr then eqT b.t t else false
    else if (if (if (if !(bd == -1) then true else decide (im < 0)) then true else decide (im ≥ (ds.length : Int))) then true else decide (tr < 0)) then false
    else match ds[im.toNat]? with
      | none => false
      | some d => if (if (if (if !(d.tr == tr) then true else !((xs.length : Int) == (d.ps.length : Int))) then true else !((ps.length : Int) == (d.bs.length : Int))) then true else !eqT (appT d.ps xs d.t) t) then false
        else chkL ds az d.ps xs d.bs ps
def chkL (ds : List Dc) (az : List Tb) (qs : List Int) (xs : List Ty) : List Tb → List Prf → Bool
  | [], _ => true
  | _ :: _, [] => true
  | b :: bs, p :: ps => if (if (if !(p.tr == b.tr) then true else !eqT p.t (appT qs xs b.t)) then true else !chk ds az p) then false else chkL ds az qs xs bs ps
end
/-! ### plain laws -/
theorem mImp_spec {t : Ty} {tr : Int} : ∀ {ds : List Dc} {k i : Nat} {xs : List Ty}, mImp t tr ds k = some (i, xs) → ∃ d, k ≤ i ∧ ds[i - k]? = some d ∧ okD t tr d = true ∧ xs = (matchR d.ps t d.t).2
  | [], k, i, xs, h => by simp [mImp] at h
  | d :: ds, k, i, xs, h => by
    simp only [mImp] at h
    split at h
    · rename_i ho
      simp only [Option.some.injEq, Prod.mk.injEq] at h
      obtain ⟨rfl, rfl⟩ := h
      exact ⟨d, Nat.le_refl _, by simp, ho, rfl⟩
    · obtain ⟨d', h1, h2, h3⟩ := mImp_spec h
      refine ⟨d', by omega, ?_, h3⟩
      rw [show i - k = (i - (k + 1)) + 1 by omega]; simpa using h2
theorem okD_spec {t : Ty} {tr : Int} {d : Dc} (h : okD t tr d = true) : d.tr = tr ∧ (matchR d.ps t d.t).1 = true := by
  unfold okD at h
  split at h
  · cases h
  · rename_i h1
    split at h
    · cases h
    · exact ⟨by simpa using h1, h⟩
theorem bdF_spec {az : List Tb} {t : Ty} {tr : Int} (h : decide (bdF az t tr ≥ 0) = true) : ∃ b, az[(bdF az t tr).toNat]? = some b ∧ (bdF az t tr).toNat < az.length ∧ b.tr = tr ∧ b.t = t := by
  unfold bdF at h ⊢
  rcases idxF_spec (fun b : Tb => if b.tr == tr then eqT b.t t else false) az 0 with ⟨e, _⟩ | ⟨pre, b, post, hps, hb, e, _⟩
  · rw [e] at h; simp at h
  · rw [e, hps]
    refine ⟨b, by simp, by simp, ?_⟩
    split at hb
    · rename_i h1; exact ⟨by simpa using h1, (eqT_iff _ _).1 hb⟩
    · cases hb
theorem eqT_self (t : Ty) : eqT t t = true := (eqT_iff _ _).2 rfl
theorem eqT_ne {a b : Ty} (h : a ≠ b) : eqT a b = false := by
  cases e : eqT a b with
  | false => rfl
  | true => exact absurd ((eqT_iff _ _).1 e) h
theorem solL_len {f : Ty → Int → Option Prf} {ps : List Int} {xs : List Ty} : ∀ {bs : List Tb} {qs : List Prf}, solL f ps xs bs = some qs → qs.length = bs.length
  | [], qs, h => by simp [solL] at h; subst h; rfl
  | b :: bs, qs, h => by
    simp only [solL] at h
    split at h
    · cases h
    · split at h
      · cases h
      · rename_i qs' h2
        simp only [Option.some.injEq] at h
        subst h
        simp [solL_len h2]
theorem solL_chk {ds : List Dc} {az : List Tb} {f : Ty → Int → Option Prf} (hf : ∀ t tr p, f t tr = some p → p.t = t ∧ p.tr = tr ∧ chk ds az p = true) {ps : List Int} {xs : List Ty} :
    ∀ {bs : List Tb} {qs : List Prf}, solL f ps xs bs = some qs → chkL ds az ps xs bs qs = true
  | [], qs, h => by simp [chkL]
  | b :: bs, qs, h => by
    simp only [solL] at h
    split at h
    · cases h
    · rename_i p h1
      split at h
      · cases h
      · rename_i qs' h2
        simp only [Option.some.injEq] at h
        subst h
        obtain ⟨e1, e2, e3⟩ := hf _ _ _ h1
        simp only [chkL, e1, e2, e3, eqT_self, beq_self_eq_true, Bool.not_true, Bool.false_eq_true, if_false]
        exact solL_chk hf h2
/-- what a proof that is found looks like -/
theorem sol_cases {ds : List Dc} {az : List Tb} {n : Nat} {t : Ty} {tr : Int} {p : Prf} (h : sol ds az n t tr = some p) :
    (¬ tr < 0 ∧ decide (bdF az t tr ≥ 0) = true ∧ p = .mk t tr (-1) (bdF az t tr) [] []) ∨
    ∃ (m i : Nat) (xs : List Ty) (d : Dc) (ps : List Prf), n = m + 1 ∧ ¬ tr < 0 ∧ ds[i]? = some d ∧ d.tr = tr ∧ xs.length = d.ps.length ∧ appT d.ps xs d.t = t ∧ solL (sol ds az m) d.ps xs d.bs = some ps ∧ p = .mk t tr i (-1) xs ps := by
  cases n with
  | zero => simp [sol] at h
  | succ n =>
    simp only [sol] at h
    split at h
    · cases h
    split at h
    · cases h
    rename_i h0 h1
    have h1 : ¬ tr < 0 := by simpa using h1
    split at h
    · rename_i h2
      exact .inl ⟨h1, h2, (Option.some.inj h).symm⟩
    split at h
    · cases h
    rename_i i xs hm
    obtain ⟨d, _, hd, ho, hx⟩ := mImp_spec hm
    rw [Nat.sub_zero] at hd
    rw [hd] at h
    simp only at h
    obtain ⟨o1, o2⟩ := okD_spec ho
    obtain ⟨m1, m2⟩ := match_app o2
    split at h
    · cases h
    split at h
    · cases h
    rename_i ps hs
    exact .inr ⟨n, i, xs, d, ps, rfl, h1, hd, o1, by rw [hx]; exact m1, by rw [hx]; exact m2, hs, (Option.some.inj h).symm⟩
theorem chk_leaf {ds : List Dc} {az : List Tb} {t other : Ty} {tr : Int} (h : decide (bdF az t tr ≥ 0) = true) : chk ds az (.mk other tr (-1) (bdF az t tr) [] []) = eqT t other := by
  obtain ⟨b, h1, h2, h3, h4⟩ := bdF_spec h
  have h := of_decide_eq_true h
  have e1 : decide (bdF az t tr < 0) = false := decide_eq_false (by omega)
  have e2 : decide (bdF az t tr ≥ (az.length : Int)) = false := decide_eq_false (by omega)
  simp [chk, e1, e2, h1, h3, h4]
theorem chk_node {ds : List Dc} {az : List Tb} {t other : Ty} {tr : Int} {i : Nat} {d : Dc} {xs : List Ty} {ps : List Prf} (h0 : ¬ tr < 0) (h1 : ds[i]? = some d) (h2 : d.tr = tr) (h3 : xs.length = d.ps.length) (h4 : ps.length = d.bs.length) (h5 : appT d.ps xs d.t = t) :
    chk ds az (.mk other tr i (-1) xs ps) = if eqT t other then chkL ds az d.ps xs d.bs ps else false := by
  have hi : i < ds.length := (List.getElem?_eq_some_iff.1 h1).1
  have e1 : ((i : Int) == -1) = false := by rw [beq_eq_false_iff_ne]; omega
  have e2 : decide ((i : Int) < 0) = false := decide_eq_false (by omega)
  have e3 : decide ((i : Int) ≥ (ds.length : Int)) = false := decide_eq_false (by omega)
  have e4 : decide (tr < 0) = false := decide_eq_false h0
  have e5 : ((xs.length : Int) == (d.ps.length : Int)) = true := by rw [h3]; simp
  have e6 : ((ps.length : Int) == (d.bs.length : Int)) = true := by rw [h4]; simp
  have e7 : (-1 : Int) == -1 := rfl
  unfold chk
  simp only [e1, e2, e3, e4, e5, e6, e7, h1, h2, h5, Int.toNat_natCast, beq_self_eq_true, Bool.not_true, Bool.false_eq_true, if_false]
  cases eqT t other <;> rfl
theorem sol_chk (ds : List Dc) (az : List Tb) : ∀ (n : Nat) (t : Ty) (tr : Int) (p : Prf), sol ds az n t tr = some p → p.t = t ∧ p.tr = tr ∧ chk ds az p = true
  | n, t, tr, p, h => by
    rcases sol_cases h with ⟨h1, h2, rfl⟩ | ⟨m, i, xs, d, ps, rfl, h0, h1, h2, h3, h4, h5, rfl⟩
    · exact ⟨rfl, rfl, by rw [chk_leaf h2, eqT_self]⟩
    · refine ⟨rfl, rfl, ?_⟩
      rw [chk_node h0 h1 h2 h3 (solL_len h5) h4, eqT_self, if_pos rfl]
      exact solL_chk (fun t tr p h => sol_chk ds az m t tr p h) h5
theorem sol_other {ds : List Dc} {az : List Tb} {n : Nat} {t other : Ty} {tr : Int} {p : Prf} (h : sol ds az n t tr = some p) (hne : t ≠ other) : chk ds az (.mk other p.tr p.im p.bd p.az p.ps) = false := by
  rcases sol_cases h with ⟨h1, h2, rfl⟩ | ⟨m, i, xs, d, ps, rfl, h0, h1, h2, h3, h4, h5, rfl⟩
  · simp only [Prf.tr, Prf.im, Prf.bd, Prf.az, Prf.ps]; rw [chk_leaf h2, eqT_ne hne]
  · simp only [Prf.tr, Prf.im, Prf.bd, Prf.az, Prf.ps]
    rw [chk_node h0 h1 h2 h3 (solL_len h5) h4, eqT_ne hne, if_neg (by simp)]
theorem idxF_any {α : Type} (p : α → Bool) (xs : List α) : decide (idxF p xs 0 ≥ 0) = xs.any p := idxF_ge p xs 0
theorem solL_more {f g : Ty → Int → Option Prf} (hf : ∀ t tr, (f t tr).isSome = true → (g t tr).isSome = true) {ps : List Int} {xs : List Ty} : ∀ {bs : List Tb}, (solL f ps xs bs).isSome = true → (solL g ps xs bs).isSome = true
  | [], h => rfl
  | b :: bs, h => by
    simp only [solL] at h ⊢
    split at h
    · cases h
    · rename_i p h1
      split at h
      · cases h
      · rename_i qs h2
        have g1 := hf _ _ (by rw [h1]; rfl)
        have g2 := solL_more hf (bs := bs) (by rw [h2]; rfl)
        obtain ⟨q, e1⟩ := Option.isSome_iff_exists.1 g1
        obtain ⟨qs', e2⟩ := Option.isSome_iff_exists.1 g2
        rw [e1, e2]; rfl
theorem sol_more (ds : List Dc) (az : List Tb) (x : Tb) : ∀ (n : Nat) (t : Ty) (tr : Int), (sol ds az n t tr).isSome = true → (sol ds (az ++ [x]) n t tr).isSome = true
  | 0, t, tr, h => by simp [sol] at h
  | n + 1, t, tr, h => by
    simp only [sol] at h ⊢
    split at h
    · cases h
    split at h
    · cases h
    rename_i h0 h1
    rw [if_neg h0, if_neg h1]
    by_cases h2 : decide (bdF (az ++ [x]) t tr ≥ 0) = true
    · rw [if_pos h2]; rfl
    · rw [if_neg h2]
      have h3 : ¬ decide (bdF az t tr ≥ 0) = true := fun h3 => h2 (by
        unfold bdF at h3 ⊢
        rw [idxF_any] at h3 ⊢
        rw [List.any_append, h3]; rfl)
      rw [if_neg h3] at h
      split at h
      · cases h
      · split at h
        · cases h
        · rename_i d _
          split at h
          · cases h
          · rename_i h4
            rw [if_neg h4]
            split at h
            · cases h
            · rename_i ps h5
              have := solL_more (g := sol ds (az ++ [x]) n) (fun t tr h => sol_more ds az x n t tr h) (by rw [h5]; rfl)
              obtain ⟨q, e⟩ := Option.isSome_iff_exists.1 this
              rw [e]; rfl
theorem sol_extra (ds : List Dc) (az : List Tb) (x : Tb) (n : Nat) (h0 : (x.t.kd == 0) = false) (h1 : decide (x.tr < 0) = false) : (sol ds (az ++ [x]) (n + 1) x.t x.tr).isSome = true := by
  simp only [sol, h0, h1, Bool.false_eq_true, if_false]
  rw [if_pos]
  · rfl
  · unfold bdF
    rw [idxF_any, List.any_append]
    simp [eqT_self]
end Go.Proofs.Ytbdoblgofddhdaa
