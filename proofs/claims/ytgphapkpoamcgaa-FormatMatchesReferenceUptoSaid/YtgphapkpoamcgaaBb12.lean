/- Calls by contract; a region's operations one after the other. -/
import Derived.Test.YtgphapkpoamcgaaBb11
set_option linter.unusedVariables false
set_option linter.unusedSimpArgs false
namespace Go.Ab
open Go.RowKit

/-! ### contracts of functions that leave all memory alone -/
def ImmOk (I : Imm) (w : World) : Prop := ∀ a v, I a = some v → w.cell? a = some v
/-- the function can be entered -/
def Enters (P : Program) (f : FuncId) : Prop := ∃ fn, P.funcs[f]? = some fn ∧ fn.body.isSome = true ∧ (fn.name == "runtime.NumGoroutine") = false
/-- called with these values the function returns this one; memory that was there is as it was -/
def PCall (P : Program) (f : FuncId) (args : List PV) (r : PV) : Prop :=
  Enters P f ∧ ∀ I w us, ImmOk I w → RPL I args us → Calls P f us.toArray w fun e w' =>
    ∃ u J, e = .returned u ∧ I.le J ∧ (∀ a v, J a = some v → a.block < w.heap.size → I a = some v) ∧ ImmOk J w' ∧ RP J r u ∧ Below w.heap.size w w'

/-! ### what a callee sees -/
mutual
inductive Vw (h : HF) (B : List Nat) : V → PV → Prop
  | pv (p : PV) : Vw h B (.pv p) p
  | weak (p q : PV) : (∀ I u, RP I p u → RP I q u) → Vw h B (.pv p) q
  | ptr (b i off : Nat) (k : Blk) (cs : List V) (ps : List PV) : b ∈ B → h b = some k → k.xs[i]? = some cs → VwL h B (cs.drop off) ps → Vw h B (.ptr b i off) (.rptr ps)
  | row (b n : Nat) (fl : Bool) (k : Blk) (ps : List PV) : b ∈ B → h b = some k → n ≤ k.xs.length → VwE h B k.sz (k.xs.take n) ps → Vw h B (.row b n fl) (.list k.sz ps)
  | agg (cs : List V) (ps : List PV) : VwL h B cs ps → Vw h B (.agg cs) (.agg ps)
  | tup (cs : List V) (ps : List PV) : VwL h B cs ps → Vw h B (.tup cs) (.tup ps)
  | fn (f : FuncId) (cs : List V) (ps : List PV) : VwL h B cs ps → Vw h B (.fn f cs) (.fn f ps)
inductive VwL (h : HF) (B : List Nat) : List V → List PV → Prop
  | nil : VwL h B [] []
  | cons (c : V) (cs : List V) (p : PV) (ps : List PV) : Vw h B c p → VwL h B cs ps → VwL h B (c :: cs) (p :: ps)
inductive VwE (h : HF) (B : List Nat) : Nat → List (List V) → List PV → Prop
  | nil (sz : Nat) : VwE h B sz [] []
  | cons (sz : Nat) (c : List V) (cs : List (List V)) (p : PV) (ps : List PV) : p.cells.length = sz → VwL h B c p.cells → VwE h B sz cs ps → VwE h B sz (c :: cs) (p :: ps)
end
theorem VwL_pv {h : HF} {B : List Nat} : ∀ (ps : List PV), VwL h B (ps.map .pv) ps
  | [] => .nil
  | p :: ps => .cons _ _ _ _ (.pv p) (VwL_pv ps)
/-- a row of values that lie in no memory -/
theorem VwE_pv {h : HF} {B : List Nat} {sz : Nat} : ∀ (ps : List PV), (∀ p ∈ ps, p.cells.length = sz) → VwE h B sz (ps.map PV.vcells) ps
  | [], _ => .nil sz
  | p :: ps, hs => .cons sz _ _ _ _ (hs p (by simp)) (VwL_pv _) (VwE_pv ps fun q hq => hs q (by simp [hq]))

open Classical in
/-- what never changes while the callee runs -/
noncomputable def lend (G : Gh) (h : HF) (B : List Nat) (w : World) : Imm := fun a =>
  if (G.I a).isSome then G.I a
  else if ∃ b k, b ∈ B ∧ h b = some k ∧ a.block = G.φ b ∧ a.spot = none ∧ a.off < k.xs.length * k.sz then w.cell? a else none

section
variable {S : Nat → Prop} {G : Gh} {h : HF} {w : World} {B : List Nat}
theorem lend_le : G.I.le (lend G h B w) := fun a v e => by simp [lend, e]
theorem lend_ok (r : Rel S G h w) : ImmOk (lend G h B w) w := fun a v e => by
  unfold lend at e
  split at e
  · exact r.imm a v e
  · split at e
    · exact e
    · cases e
theorem lend_block {b : Nat} {k : Blk} {i : Nat} (r : Rel S G h w) (hb : b ∈ B) (hk : h b = some k) (hi : i < k.xs.length * k.sz) : lend G h B w ⟨G.φ b, i, none⟩ = w.cell? ⟨G.φ b, i, none⟩ := by
  unfold lend
  split
  · rename_i h1
    obtain ⟨v, e⟩ := Option.isSome_iff_exists.1 h1
    rw [e, r.imm _ _ e]
  · rw [if_pos ⟨b, k, hb, hk, rfl, rfl, hi⟩]
theorem lend_spec {a : Addr} {v : Value} (e : lend G h B w a = some v) : G.I a = some v ∨ ∃ b k, b ∈ B ∧ h b = some k ∧ a.block = G.φ b := by
  unfold lend at e
  split at e
  · exact .inl e
  · split at e
    · rename_i h2
      obtain ⟨b, k, h3, h4, h5, _⟩ := h2
      exact .inr ⟨b, k, h3, h4, h5⟩
    · cases e

theorem lend_cell (r : Rel S G h w) {b : Nat} {k : Blk} (hb : b ∈ B) (hk : h b = some k) {i j : Nat} {cs : List V} {c : V} (hi : k.xs[i]? = some cs) (hj : cs[j]? = some c) :
    ∃ u, lend G h B w ⟨G.φ b, i * G.σ b + j, none⟩ = some u ∧ u.oneCell' = true ∧ R G c u := by
  obtain ⟨arr, e, rr⟩ := r.blk b k hk
  obtain ⟨u, e1, e2, e3⟩ := rr.cell i j cs c hi hj
  have hlen := rr.len i cs hi
  have hil : i < k.xs.length := (List.getElem?_eq_some_iff.1 hi).1
  have hjl : j < k.sz := by rw [← hlen]; exact (List.getElem?_eq_some_iff.1 hj).1
  refine ⟨u, ?_, e2, e3⟩
  rw [← rr.sz, lend_block r hb hk, cell_arr e, e1]
  have := Nat.mul_le_mul_right k.sz (show i + 1 ≤ k.xs.length by omega)
  rw [Nat.add_mul] at this; omega

mutual
theorem Vw_R (r : Rel S G h w) : ∀ {v : V} {p : PV} {u : Value}, Vw h B v p → R G v u → RP (lend G h B w) p u
  | _, _, u, .pv p, hr => by simp only [R] at hr; exact RP_mono lend_le _ _ hr
  | _, _, u, .weak p q hw, hr => by simp only [R] at hr; exact hw _ _ (RP_mono lend_le _ _ hr)
  | _, _, u, .ptr b i off k cs ps hb hk hcs hl, hr => by
    simp only [R] at hr
    simp only [RP]
    refine ⟨_, hr, VwL_RC r hl fun j d hd => ?_⟩
    rw [List.getElem?_drop] at hd
    obtain ⟨u, e1, e2⟩ := lend_cell r hb hk hcs hd
    refine ⟨u, ?_, e2⟩
    rw [add_plain', Nat.zero_add, Nat.add_assoc]; exact e1
  | _, _, u, .row b n fl k ps hb hk hn hl, hr => by
    simp only [R] at hr
    obtain ⟨cap, hr, hc, hbig, _⟩ := hr
    obtain ⟨arr, e, rr⟩ := r.blk b k hk
    have hlen : ps.length = n := by rw [← VwE_length hl]; simp [hn]
    simp only [RP]
    refine ⟨_, _, _, hr, hlen.symm, hc, hbig, .inr ⟨_, rfl, VwE_R r hl fun i cs hi j d hd => ?_⟩⟩
    have hi' : k.xs[i]? = some cs := by
      rw [List.getElem?_take] at hi
      split at hi
      · exact hi
      · cases hi
    obtain ⟨u, e1, e2⟩ := lend_cell r hb hk hi' hd
    refine ⟨u, ?_, e2⟩
    rw [add_plain', Nat.zero_add, Nat.zero_add, rr.sz]; exact e1
  | _, _, u, .agg cs ps hl, hr => by
    simp only [R] at hr
    obtain ⟨us, rfl, h1, hr⟩ := hr
    simp only [RP]
    exact ⟨us, rfl, h1, VwL_R r hl hr⟩
  | _, _, u, .tup cs ps hl, hr => by
    simp only [R] at hr
    obtain ⟨us, rfl, hr⟩ := hr
    simp only [RP]
    exact ⟨us, rfl, VwL_R r hl hr⟩
  | _, _, u, .fn f cs ps hl, hr => by
    simp only [R] at hr
    obtain ⟨us, rfl, hr⟩ := hr
    simp only [RP]
    exact ⟨us, rfl, VwL_R r hl hr⟩
theorem VwL_R (r : Rel S G h w) : ∀ {vs : List V} {ps : List PV} {us : List Value}, VwL h B vs ps → RL G vs us → RPL (lend G h B w) ps us
  | _, _, us, .nil, hr => by simpa [RL, RPL] using hr
  | _, _, us, .cons c cs p ps h1 h2, hr => by
    simp only [RL] at hr
    obtain ⟨u, us', rfl, r1, r2⟩ := hr
    simp only [RPL]
    exact ⟨u, us', rfl, Vw_R r h1 r1, VwL_R r h2 r2⟩
theorem VwL_RC (r : Rel S G h w) {ad : Addr} {kk : Nat} : ∀ {ds : List V} {qs : List PV}, VwL h B ds qs → (∀ (j : Nat) d, ds[j]? = some d → ∃ u, lend G h B w (ad.add (kk + j)) = some u ∧ u.oneCell' = true ∧ R G d u) → RPC (lend G h B w) ad kk qs
  | _, _, .nil, _ => by simp [RPC]
  | _, _, .cons c cs p ps h1 h2, hc => by
    simp only [RPC]
    obtain ⟨u, e1, e2, e3⟩ := hc 0 c (by simp)
    refine ⟨⟨u, by simpa using e1, e2, Vw_R r h1 e3⟩, VwL_RC r h2 fun j d hd => ?_⟩
    have := hc (j + 1) d (by simpa using hd)
    rwa [show kk + (j + 1) = kk + 1 + j by omega] at this
theorem VwE_R (r : Rel S G h w) {ad : Addr} {kk : Nat} : ∀ {sz : Nat} {ds : List (List V)} {qs : List PV}, VwE h B sz ds qs → (∀ (i : Nat) cs, ds[i]? = some cs → ∀ (j : Nat) d, cs[j]? = some d → ∃ u, lend G h B w (ad.add (kk + i * sz + j)) = some u ∧ u.oneCell' = true ∧ R G d u) → RPE (lend G h B w) ad kk sz qs
  | _, _, _, .nil sz, _ => by simp [RPE]
  | _, _, _, .cons sz c cs p ps hs h1 h2, hc => by
    rw [RPE_cons]
    refine ⟨hs, VwL_RC r h1 fun j d hd => ?_, VwE_R r h2 fun i cs' hi j d hd => ?_⟩
    · have := hc 0 c (by simp) j d hd
      simpa using this
    · have := hc (i + 1) cs' (by simpa using hi) j d hd
      rwa [show kk + (i + 1) * sz + j = kk + sz + i * sz + j by rw [Nat.add_mul]; omega] at this
theorem VwE_length : ∀ {sz : Nat} {ds : List (List V)} {qs : List PV}, VwE h B sz ds qs → ds.length = qs.length
  | _, _, _, .nil sz => rfl
  | _, _, _, .cons sz c cs p ps hs h1 h2 => by simp [VwE_length h2]
end
end
end Go.Ab
