/- X14: joined from XE14. -/
import Derived.Test.YtckjkdhmljfeeaaGreatDoorX13
/- Calls that were run once, taken over with other names. -/
set_option linter.unusedVariables false
set_option linter.unusedSimpArgs false
set_option linter.unusedSectionVars false
namespace Go.Ev
open Go Go.RowKit
structure Tm where
  g : FuncId
  args : List X
  v : X
  bs : List (Nat × Blk)
  m : Nat
mutual
def shX (ng nb : Nat) : X → X
  | .ptr b o => .ptr (b - ng + nb) o
  | .sl b o n s c => .sl (b - ng + nb) o n s c
  | .fn f fs cs => .fn f (shL ng nb fs) (shL ng nb cs)
  | .ifc t x => .ifc t (shX ng nb x)
  | .agg cs => .agg (shL ng nb cs)
  | .tup cs => .tup (shL ng nb cs)
  | .v x => .v x
  | .junk => .junk
def shL (ng nb : Nat) : List X → List X
  | [] => []
  | x :: xs => shX ng nb x :: shL ng nb xs
end
mutual
/-- the names of x lie in an interval -/
def okX (lo hi : Nat) : X → Bool
  | .ptr b _ => Nat.ble lo b && Nat.ble (b + 1) hi
  | .sl b _ _ _ _ => Nat.ble lo b && Nat.ble (b + 1) hi
  | .fn _ fs cs => okL lo hi fs && okL lo hi cs
  | .ifc _ x => okX lo hi x
  | .agg cs => okL lo hi cs
  | .tup cs => okL lo hi cs
  | .v _ => true
  | .junk => true
def okL (lo hi : Nat) : List X → Bool
  | [] => true
  | x :: xs => okX lo hi x && okL lo hi xs
end
theorem shL_len (ng nb : Nat) : ∀ xs : List X, (shL ng nb xs).length = xs.length
  | [] => rfl
  | x :: xs => by simp [shL, shL_len ng nb xs]
theorem shL_get (ng nb : Nat) : ∀ (xs : List X) (i : Nat), (shL ng nb xs)[i]? = (xs[i]?).map (shX ng nb)
  | [], i => by simp [shL]
  | x :: xs, 0 => by simp [shL]
  | x :: xs, i + 1 => by simp [shL, shL_get ng nb xs i]
theorem okL_mem {lo hi : Nat} : ∀ {xs : List X}, okL lo hi xs = true → ∀ x ∈ xs, okX lo hi x = true
  | [], _, x, h => by cases h
  | y :: ys, h, x, hx => by
    simp only [okL, Bool.and_eq_true] at h
    rcases List.mem_cons.1 hx with rfl | hx
    · exact h.1
    · exact okL_mem h.2 x hx
section
variable {ng nb m : Nat} {M1 M2 : Nm} (hM : ∀ b, ng ≤ b → b < ng + m → M2.φ (b - ng + nb) = M1.φ b ∧ M2.κ (b - ng + nb) = M1.κ b)
include hM
mutual
theorem shX_ok : ∀ (x : X) (u : Value), okX ng (ng + m) x = true → RX M1 x u → RX M2 (shX ng nb x) u
  | .junk, u, _, _ => by simp [shX, RX]
  | .v x, u, _, r => by simpa only [shX, RX] using r
  | .ptr b o, u, h, r => by
    simp only [okX, Bool.and_eq_true] at h
    simp only [shX, RX] at r ⊢
    rw [(hM b (Nat.le_of_ble_eq_true h.1) (Nat.le_of_ble_eq_true h.2)).1]; exact r
  | .sl b o n s c, u, h, r => by
    simp only [okX, Bool.and_eq_true] at h
    simp only [shX, RX] at r ⊢
    obtain ⟨h1, h2⟩ := hM b (Nat.le_of_ble_eq_true h.1) (Nat.le_of_ble_eq_true h.2)
    rw [h1, h2]; exact r
  | .fn f fs cs, u, h, r => by
    simp only [okX, Bool.and_eq_true] at h
    simp only [shX, RX] at r ⊢
    obtain ⟨vs, us, e, r1, r2⟩ := r
    exact ⟨vs, us, e, shL_ok fs _ h.1 r1, shL_ok cs _ h.2 r2⟩
  | .ifc t x, u, h, r => by
    simp only [okX] at h
    simp only [shX, RX] at r ⊢
    obtain ⟨y, e, r⟩ := r
    exact ⟨y, e, shX_ok x _ h r⟩
  | .agg cs, u, h, r => by
    simp only [okX] at h
    simp only [shX, RX] at r ⊢
    obtain ⟨us, e, h1, r⟩ := r
    exact ⟨us, e, h1, shL_ok cs _ h r⟩
  | .tup cs, u, h, r => by
    simp only [okX] at h
    simp only [shX, RX] at r ⊢
    obtain ⟨us, e, r⟩ := r
    exact ⟨us, e, shL_ok cs _ h r⟩
theorem shL_ok : ∀ (xs : List X) (us : List Value), okL ng (ng + m) xs = true → RXL M1 xs us → RXL M2 (shL ng nb xs) us
  | [], us, _, r => by simpa only [shL, RXL] using r
  | x :: xs, us, h, r => by
    simp only [okL, Bool.and_eq_true] at h
    simp only [shL, RXL] at r ⊢
    obtain ⟨u, us', e, r1, r2⟩ := r
    exact ⟨u, us', e, shX_ok x u h.1 r1, shL_ok xs us' h.2 r2⟩
end
end
section
variable {ng nb m : Nat} {S : Nat → Prop} (hS : ∀ b, nb ≤ b → b < nb + m → S b)
include hS
mutual
theorem shX_bd : ∀ (x : X), okX ng (ng + m) x = true → (shX ng nb x).bd S
  | .junk, _ => by simp [shX, X.bd]
  | .v _, _ => by simp [shX, X.bd]
  | .ptr b o, h => by
    simp only [okX, Bool.and_eq_true] at h
    simp only [shX, X.bd]
    have h1 := Nat.le_of_ble_eq_true h.1
    have h2 := Nat.le_of_ble_eq_true h.2
    exact hS _ (by omega) (by omega)
  | .sl b o n s c, h => by
    simp only [okX, Bool.and_eq_true] at h
    simp only [shX, X.bd]
    have h1 := Nat.le_of_ble_eq_true h.1
    have h2 := Nat.le_of_ble_eq_true h.2
    exact hS _ (by omega) (by omega)
  | .fn f fs cs, h => by
    simp only [okX, Bool.and_eq_true] at h
    simp only [shX, X.bd]
    exact ⟨shL_bd fs h.1, shL_bd cs h.2⟩
  | .ifc t x, h => by simp only [okX] at h; simp only [shX, X.bd]; exact shX_bd x h
  | .agg cs, h => by simp only [okX] at h; simp only [shX, X.bd]; exact shL_bd cs h
  | .tup cs, h => by simp only [okX] at h; simp only [shX, X.bd]; exact shL_bd cs h
theorem shL_bd : ∀ (xs : List X), okL ng (ng + m) xs = true → bdL S (shL ng nb xs)
  | [], _ => by simp [shL, bdL]
  | x :: xs, h => by
    simp only [okL, Bool.and_eq_true] at h
    simp only [shL, bdL]
    exact ⟨shX_bd x h.1, shL_bd xs h.2⟩
end
end
mutual
theorem toV_any {M M' : Nm} : ∀ (x : X) (v u : Value), toV x = some v → RX M x u → RX M' x u
  | .v x, v, u, h, r => by simpa only [RX] using r
  | .ifc t x, v, u, h, r => by
    simp only [toV] at h
    split at h
    · rename_i y hy
      simp only [RX] at r ⊢
      obtain ⟨z, e, r⟩ := r
      exact ⟨z, e, toV_any x y z hy r⟩
    · cases h
  | .agg cs, v, u, h, r => by
    simp only [toV] at h
    split at h
    · rename_i us hy
      simp only [RX] at r ⊢
      obtain ⟨z, e, h1, r⟩ := r
      exact ⟨z, e, h1, toVL_any cs us _ hy r⟩
    · cases h
  | .tup cs, v, u, h, r => by
    simp only [toV] at h
    split at h
    · rename_i us hy
      simp only [RX] at r ⊢
      obtain ⟨z, e, r⟩ := r
      exact ⟨z, e, toVL_any cs us _ hy r⟩
    · cases h
  | .fn f [] [], v, u, h, r => by
    simp only [RX, RXL] at r ⊢
    exact r
  | .fn _ (_ :: _) _, v, u, h, r => by simp [toV] at h
  | .fn _ [] (_ :: _), v, u, h, r => by simp [toV] at h
  | .junk, v, u, h, r => by simp [toV] at h
  | .ptr _ _, v, u, h, r => by simp [toV] at h
  | .sl _ _ _ _ _, v, u, h, r => by simp [toV] at h
theorem toVL_any {M M' : Nm} : ∀ (xs : List X) (vs us : List Value), toVL xs = some vs → RXL M xs us → RXL M' xs us
  | [], vs, us, h, r => by simpa only [RXL] using r
  | x :: xs, vs, us, h, r => by
    simp only [toVL] at h
    split at h
    · rename_i v hv
      split at h
      · rename_i ws hws
        simp only [RXL] at r ⊢
        obtain ⟨u, us', e, r1, r2⟩ := r
        exact ⟨u, us', e, toV_any x v u hv r1, toVL_any xs ws us' hws r2⟩
      · cases h
    · cases h
end
mutual
theorem toV_bd {S : Nat → Prop} : ∀ (x : X) (v : Value), toV x = some v → x.bd S
  | .v _, v, h => by simp [X.bd]
  | .ifc t x, v, h => by
    simp only [toV] at h
    split at h
    · rename_i y hy
      simp only [X.bd]; exact toV_bd x y hy
    · cases h
  | .agg cs, v, h => by
    simp only [toV] at h
    split at h
    · rename_i us hy
      simp only [X.bd]; exact toVL_bd cs us hy
    · cases h
  | .tup cs, v, h => by
    simp only [toV] at h
    split at h
    · rename_i us hy
      simp only [X.bd]; exact toVL_bd cs us hy
    · cases h
  | .fn f [] [], v, h => by simp [X.bd, bdL]
  | .fn _ (_ :: _) _, v, h => by simp [toV] at h
  | .fn _ [] (_ :: _), v, h => by simp [toV] at h
  | .junk, v, h => by simp [toV] at h
  | .ptr _ _, v, h => by simp [toV] at h
  | .sl _ _ _ _ _, v, h => by simp [toV] at h
theorem toVL_bd {S : Nat → Prop} : ∀ (xs : List X) (vs : List Value), toVL xs = some vs → bdL S xs
  | [], vs, h => by simp [bdL]
  | x :: xs, vs, h => by
    simp only [toVL] at h
    split at h
    · rename_i v hv
      split at h
      · rename_i ws hws
        simp only [bdL]; exact ⟨toV_bd x v hv, toVL_bd xs ws hws⟩
      · cases h
    · cases h
end
def addB (ng nb : Nat) : List (Nat × Blk) → T Blk → T Blk
  | [], H => H
  | (b, k) :: bs, H => T.put dpt (addB ng nb bs H) (b - ng + nb) (some ⟨k.ro, k.ty, shL ng nb k.xs⟩)
theorem addB_get {ng nb m : Nat} (hl : nb + m ≤ lim) : ∀ (bs : List (Nat × Blk)) (H : T Blk), (∀ p ∈ bs, ng ≤ p.1 ∧ p.1 < ng + m) → ∀ c k, hD (addB ng nb bs H) c = some k → (∃ p ∈ bs, c = p.1 - ng + nb ∧ k = ⟨p.2.ro, p.2.ty, shL ng nb p.2.xs⟩) ∨ hD H c = some k
  | [], H, _, c, k, h => .inr h
  | (b, k0) :: bs, H, hb, c, k, h => by
    have h0 := hb (b, k0) (by simp)
    simp only at h0
    simp only [addB, hD, get_put (show b - ng + nb ≤ lim by omega)] at h
    by_cases hc : c = b - ng + nb
    · rw [if_pos hc] at h
      cases h
      exact .inl ⟨(b, k0), by simp, hc, rfl⟩
    · rw [if_neg hc] at h
      rcases addB_get hl bs H (fun p hp => hb p (by simp [hp])) c k h with ⟨p, hp, e1, e2⟩ | h
      · exact .inl ⟨p, by simp [hp], e1, e2⟩
      · exact .inr h
def tmBlk (ng m : Nat) (H' : T Blk) (p : Nat × Blk) : Bool := match H'.get p.1 with
  | some k => !k.ro && !p.2.ro && Nat.beq k.ty p.2.ty && eqL k.xs p.2.xs && okL ng (ng + m) p.2.xs && Nat.ble ng p.1 && Nat.ble (p.1 + 1) (ng + m)
  | none => false
def tmB (ng : Nat) (t : Tm) (r : Option (X × T Blk × Nat)) : Bool := match r with
  | some (v, H', nb') => eqX v t.v && Nat.ble nb' (ng + t.m) && okX ng (ng + t.m) t.v && t.bs.all (tmBlk ng t.m H')
  | none => false
section
variable {P : Program} {ng : Nat} {orc : CallF}
def TmOk (P : Program) (ng : Nat) (t : Tm) : Prop := ∀ H nb, nb + t.m ≤ lim → CallOk P ng t.g t.args (hD H) nb (shX ng nb t.v) (hD (addB ng nb t.bs H)) (nb + t.m)
theorem tm_ok (hm : P.follows .mixedOrders = true) (hN : noNG P) (horc : CallsOk P ng orc) (hg : glbOk ng Ab.laidL = true) {t : Tm} {n : Nat} {vs : List Value} (ha : toVL t.args = some vs)
    (h : tmB ng t (callF (ev P ng orc n) P orc t.g t.args (glb Ab.laidL) ng) = true) : TmOk P ng t := by
  intro H nb hlim
  unfold tmB at h
  split at h
  case h_2 => cases h
  rename_i v H' nb' hrun
  simp only [Bool.and_eq_true, List.all_eq_true] at h
  obtain ⟨⟨⟨h1, h2⟩, h3⟩, h4⟩ := h
  have h1 := eqX_ok _ _ h1
  subst h1
  have h2 := Nat.le_of_ble_eq_true h2
  have hb : ∀ p ∈ t.bs, ∃ k, hD H' p.1 = some k ∧ k.ro = false ∧ p.2.ro = false ∧ k.ty = p.2.ty ∧ k.xs = p.2.xs ∧ okL ng (ng + t.m) p.2.xs = true ∧ ng ≤ p.1 ∧ p.1 < ng + t.m := fun p hp => by
    have := h4 p hp
    unfold tmBlk at this
    split at this
    case h_2 => cases this
    rename_i k hk
    simp only [Bool.and_eq_true, Bool.not_eq_true'] at this
    obtain ⟨⟨⟨⟨⟨⟨q1, q2⟩, q3⟩, q4⟩, q5⟩, q6⟩, q7⟩ := this
    exact ⟨k, hk, q1, q2, beq_t.1 q3, eqL_ok _ _ q4, q5, Nat.le_of_ble_eq_true q6, Nat.le_of_ble_eq_true q7⟩
  obtain ⟨hle, hen, hc⟩ := callF_ok hN horc (ev_ok hm hN horc n) _ _ _ _ _ _ _ hrun
  refine ⟨by omega, hen, fun n0 S M w us hr hi hgl hra hba hfr => ?_⟩
  have hld : LdW w := fun b cs hm => (hgl.ld b cs hm).2
  refine (hc w.heap.size _ _ w us (glb_rel hld hg) (Nat.le_refl _) (glb_gl hld hg) (toVL_any _ _ _ ha hra) (toVL_bd _ _ ha) (fun b h1 h2 h3 => absurd h3 (Nat.not_lt.2 h1))).mono fun e w' ⟨u, M', he, hle', hrel, hbel, hR, hbd⟩ => ?_
  let M2 : Nm := ⟨fun b => if nb ≤ b ∧ b < nb + t.m then M'.φ (b - nb + ng) else M.φ b, fun b => if nb ≤ b ∧ b < nb + t.m then M'.κ (b - nb + ng) else M.κ b⟩
  have hin : ∀ b, ng ≤ b → b < ng + t.m → M2.φ (b - ng + nb) = M'.φ b ∧ M2.κ (b - ng + nb) = M'.κ b := fun b p q => by
    have e : b - ng + nb - nb + ng = b := by omega
    simp only [M2]
    rw [if_pos ⟨by omega, by omega⟩, if_pos ⟨by omega, by omega⟩, e]
    exact ⟨rfl, rfl⟩
  have hout : ∀ b, S b → ¬ (nb ≤ b ∧ b < nb + t.m) := fun b hS hh => hfr b hh.1 hh.2 hS
  have hleM : Nm.le S M M2 := fun b hS => by simp only [M2]; rw [if_neg (hout b hS), if_neg (hout b hS)]; exact ⟨rfl, rfl⟩
  have hSI : ∀ b, nb ≤ b → b < nb + t.m → SI S nb (nb + t.m) b := fun b p q => .inr ⟨p, q⟩
  have get := addB_get (ng := ng) hlim t.bs H fun p hp => by obtain ⟨k, _, _, _, _, _, _, q1, q2⟩ := hb p hp; exact ⟨q1, q2⟩
  have hnew : ∀ p ∈ t.bs, M2.φ (p.1 - ng + nb) = M'.φ p.1 ∧ w.heap.size ≤ M'.φ p.1 := fun p hp => by
    obtain ⟨k, q1, q2, _, _, _, _, q3, q4⟩ := hb p hp
    exact ⟨(hin p.1 q3 q4).1, hrel.lo p.1 k q1 q2⟩
  refine ⟨u, M2, he, hleM, ⟨fun c k hk => ?_, fun c d k l hk hl hφ => ?_, fun c k hk => ?_, fun c k hk => ?_, fun c k hk hro => ?_⟩, hbel.mono hi, shX_ok hin _ _ h3 hR, shX_bd hSI _ h3⟩
  · rcases get c k hk with ⟨p, hp, rfl, rfl⟩ | hk
    · obtain ⟨k', q1, q2, q3, q4, q5, q6, q7, q8⟩ := hb p hp
      obtain ⟨arr, ty, fz, e1, e0, e2, e3, e4⟩ := hrel.blk p.1 k' q1
      obtain ⟨i1, i2⟩ := hin p.1 q7 q8
      refine ⟨arr, ty, fz, by rw [i1]; exact e1, fun _ => by rw [← q4]; exact e0 q2, by rw [i2]; exact e2, by rw [shL_len, ← q5]; exact e3, fun i x hx => ?_⟩
      rw [shL_get, Option.map_eq_some_iff] at hx
      obtain ⟨y, hy, rfl⟩ := hx
      rw [← q5] at hy
      obtain ⟨z, f1, f2, f3⟩ := e4 i y hy
      exact ⟨z, f1, f2, shX_ok hin y z (okL_mem q6 y (by rw [← q5]; exact List.mem_of_getElem? hy)) f3⟩
    · have hS := hr.live c k hk
      refine ((hr.blk c k hk).mono hleM hS (hr.bd c k hk)).at ?_
      rw [(hleM c hS).1]
      exact hbel.block _ (hr.lt hk)
  · rcases get c k hk with ⟨p, hp, rfl, rfl⟩ | hk
    · rcases get d l hl with ⟨q, hq, rfl, rfl⟩ | hl
      · rw [(hnew p hp).1, (hnew q hq).1] at hφ
        obtain ⟨k1, p1, _⟩ := hb p hp
        obtain ⟨k2, p2, _⟩ := hb q hq
        rw [hrel.inj _ _ _ _ p1 p2 hφ]
      · rw [(hnew p hp).1, (hleM d (hr.live d l hl)).1] at hφ
        have := hr.lt hl
        have := (hnew p hp).2
        omega
    · rcases get d l hl with ⟨q, hq, rfl, rfl⟩ | hl
      · rw [(hnew q hq).1, (hleM c (hr.live c k hk)).1] at hφ
        have := hr.lt hk
        have := (hnew q hq).2
        omega
      · rw [(hleM c (hr.live c k hk)).1, (hleM d (hr.live d l hl)).1] at hφ
        exact hr.inj c d k l hk hl hφ
  · rcases get c k hk with ⟨p, hp, rfl, rfl⟩ | hk
    · obtain ⟨k', _, _, _, _, _, _, q7, q8⟩ := hb p hp
      exact .inr ⟨by omega, by omega⟩
    · exact .inl (hr.live c k hk)
  · rcases get c k hk with ⟨p, hp, rfl, rfl⟩ | hk
    · obtain ⟨k', _, _, _, _, _, q6, _⟩ := hb p hp
      exact shL_bd hSI _ q6
    · exact bdL_mono (fun b hb => .inl hb) _ (hr.bd c k hk)
  · rcases get c k hk with ⟨p, hp, rfl, rfl⟩ | hk
    · rw [(hnew p hp).1]; exact Nat.le_trans hi (hnew p hp).2
    · rw [(hleM c (hr.live c k hk)).1]; exact hr.lo c k hk hro
/-- the calls of a list -/
def orcT (ng : Nat) : List Tm → CallF
  | [] => fun _ _ _ _ => none
  | t :: ts => fun g args H nb => match Nat.beq g t.g && eqL args t.args && Nat.ble (nb + t.m) lim with
    | true => some (shX ng nb t.v, addB ng nb t.bs H, nb + t.m)
    | false => orcT ng ts g args H nb
theorem orcT_ok : ∀ {ts : List Tm}, (∀ t ∈ ts, TmOk P ng t) → CallsOk P ng (orcT ng ts)
  | [], _ => noOrc_ok
  | t :: ts, h => by
    intro g args H nb v H' nb' hc
    simp only [orcT] at hc
    split at hc
    · rename_i hb
      simp only [Bool.and_eq_true] at hb
      obtain ⟨⟨h1, h2⟩, h3⟩ := hb
      have h1 := beq_t.1 h1
      have h2 := eqL_ok _ _ h2
      subst h1; subst h2
      simp only [Option.some.injEq, Prod.mk.injEq] at hc
      obtain ⟨rfl, rfl, rfl⟩ := hc
      exact h t (by simp) H nb (Nat.le_of_ble_eq_true h3)
    · exact orcT_ok (fun t ht => h t (by simp [ht])) g args H nb v H' nb' hc
end
end Go.Ev
