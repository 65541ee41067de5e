/- Each operation does in the machine what it does to abstract values: cuts, what is built, append; and all of them together. -/
import Derived.Test.YtgphapkpoamcgaaBb8
set_option linter.unusedVariables false
set_option linter.unusedSimpArgs false
namespace Go.Ab
open Go.RowKit

section
variable {P : Program} {nb : Nat} {f : FV} {h : HF} {K : Kont}

/-! ### cuts -/
theorem ev_opt {N S G f2 h2 a w} (st : St N S G f2 h2 a w) {x : Option Operand} (hx : ∀ y, x = some y → ev f2 y = ev f y) {n : Nat} {i : Int} {k : IntKind} {y : Operand} (e : x = some y) (hv : ev f y = .pv (.lit (.int k i))) : a.eval y = .int k i := by
  have := st.ev y; rw [hx y e, hv] at this; simpa only [R, RP] using this

/-- a bound that the machine takes -/
inductive BoundV (a : Act) : Option Operand → Nat → Nat → Prop
  | none (d : Nat) : BoundV a none d d
  | some (x : Operand) (k : IntKind) (n d : Nat) (e : a.eval x = .int k (n : Int)) : BoundV a (some x) d n

theorem loK_spec {x : Option Operand} {Kn : Nat → Prop} (hA : loK (optE f x) Kn) :
    ∃ n, Kn n ∧ ∀ N S G f2 h2 a w, St N S G f2 h2 a w → (∀ y, x = some y → ev f2 y = ev f y) → BoundV a x 0 n := by
  unfold loK at hA
  cases x with
  | none => exact ⟨0, hA, fun _ _ _ _ _ _ _ _ _ => .none 0⟩
  | some y =>
    simp only [optE] at hA
    split at hA
    · rename_i e; cases e
    · rename_i k i e
      simp only [Option.some.injEq] at e
      obtain ⟨n, rfl, hK⟩ := hA
      exact ⟨n, hK, fun N S G f2 h2 a w st hx => .some y k n 0 (ev_opt (n := 0) st hx rfl e)⟩
    · exact hA.elim
theorem hiK_spec {x : Option Operand} {len : Nat} {Kn : Nat → Prop} (hA : hiK (optE f x) len Kn) :
    ∃ n, Kn n ∧ (x = none → n = len) ∧ ∀ N S G f2 h2 a w, St N S G f2 h2 a w → (∀ y, x = some y → ev f2 y = ev f y) → BoundV a x len n := by
  unfold hiK at hA
  cases x with
  | none => exact ⟨len, hA, fun _ => rfl, fun _ _ _ _ _ _ _ _ _ => .none len⟩
  | some y =>
    simp only [optE] at hA
    split at hA
    · rename_i e; cases e
    · rename_i k i e
      simp only [Option.some.injEq] at e
      obtain ⟨n, rfl, hK⟩ := hA
      exact ⟨n, hK, (fun h => by cases h), fun N S G f2 h2 a w st hx => .some y k n len (ev_opt (n := 0) st hx rfl e)⟩
    · exact hA.elim

theorem run_cut {t e : TypeId} {ti : TypeInfo} {lo hi mx : Option Operand} (hu : P.underlying t = some (.slice e)) (hi' : P.info? e = some ti) (A : Option Addr) (len cap l u m : Nat) (a : Act) (w : World) (hlc : len ≤ cap) (h1 : l ≤ u) (h2 : u ≤ m) (h3 : m ≤ cap)
    (bl : BoundV a lo 0 l) (bh : BoundV a hi len u) (hmh : mx.isNone = true ∨ hi.isSome = true) (bm : BoundV a mx cap m) :
    (Instr.sliceAt t (.slice A len cap) (lo.map a.eval) (hi.map a.eval) (mx.map a.eval)).run P w = .ok (.slice (if m = l then A else A.map (·.add (l * ti.size))) (u - l) (m - l)) w := by
  have h5 : (sizeOf e).run P w = .ok ti.size w := by simp [sizeOf, typeInfo, hi']
  cases bl <;> cases bh <;> cases bm <;> simp_all [Instr.sliceAt, Instr.slice, run_underlying hu, Instr.sliceBounds, run_sliceBound, h5] <;> omega
theorem snd_slice {t e : TypeId} {ti : TypeInfo} {x : Operand} {lo hi mx : Option Operand} (hu : P.underlying t = some (.slice e)) (hi' : P.info? e = some ti) (hpos : 0 < ti.size) (hmh : mx.isNone = true ∨ hi.isSome = true)
    (hA : AS (.slice ti.size x lo hi mx) nb f h K) : Snd P (.slice t x lo hi mx) nb f h K := by
  simp only [AS] at hA
  obtain ⟨l, hA, bl⟩ := loK_spec hA
  have hxo : ∀ (f2 : FV), (∀ y ∈ (Op.slice t x lo hi mx).operands.toList, ev f2 y = ev f y) → ev f2 x = ev f x ∧ (∀ y, lo = some y → ev f2 y = ev f y) ∧ (∀ y, hi = some y → ev f2 y = ev f y) ∧ (∀ y, mx = some y → ev f2 y = ev f y) := fun f2 hx =>
    ⟨hx x (by simp [Op.operands]), fun y e => hx y (by simp [Op.operands, e]), fun y e => hx y (by simp [Op.operands, e]), fun y e => hx y (by simp [Op.operands, e])⟩
  split at hA
  · rename_i sz xs hx0
    obtain ⟨rfl, hA⟩ := hA
    obtain ⟨u, hA, _, bh⟩ := hiK_spec hA
    obtain ⟨m, ⟨h1, h2, h3, hA⟩, hmn, bm⟩ := hiK_spec hA
    refine snd_pure _ hA fun N S G f2 h2' a w st hx oper ho => ?_
    obtain ⟨e1, e2, e3, e4⟩ := hxo f2 hx
    have hv := st.ev x; rw [e1, hx0] at hv; simp only [R, RP] at hv
    obtain ⟨A, n, cap, hv, hn, hc, hbig, hr⟩ := hv
    have fin : ∀ m', BoundV a mx cap m' → u ≤ m' → m' ≤ cap → ∃ v, (execOp a.eval oper).run P w = .ok (.value v) w ∧ R G (.pv (.list ti.size ((xs.take u).drop l))) v ∧ (V.pv (.list ti.size ((xs.take u).drop l))).bd S := by
      intro m' b2 h4 h5
      have hrun := run_cut (P := P) hu hi' A n cap l u m' a w hc h1 h4 h5 (bl N S G f2 h2' a w st e2) (by rw [hn]; exact bh N S G f2 h2' a w st e3) hmh b2
      refine ⟨.slice (if m' = l then A else A.map (·.add (l * ti.size))) (u - l) (m' - l), by simp only [execOp, ho, hv, Sem.run_bind, hrun, Result.andThen_ok, Sem.run_pure], ?_, by simp [V.bd]⟩
      simp only [R, RP]
      refine ⟨_, _, _, rfl, by simp; omega, by omega, by omega, ?_⟩
      by_cases h0 : u - l = 0
      · exact .inl h0
      · right
        rcases hr with hr | ⟨ad, rfl, hr⟩
        · omega
        · refine ⟨ad.add (l * ti.size), by rw [if_neg (by omega)]; rfl, RPE_shift.2 ?_⟩
          simpa using RPE_drop (n := l) (RPE_take (n := u) hr)
    cases hmx : mx with
    | none => exact fin cap (by rw [hmx]; exact .none cap) (by have := hmn hmx; omega) (Nat.le_refl _)
    | some y =>
      have := bm N S G f2 h2' a w st e4
      rw [hmx] at this
      cases this with
      | some _ k n' d e => exact fin m (by rw [hmx]; exact .some y k m cap e) h2 (by omega)
  · rename_i hx0
    obtain ⟨u, hA, _, bh⟩ := hiK_spec hA
    obtain ⟨m, ⟨rfl, rfl, rfl, hA⟩, hmn, bm⟩ := hiK_spec hA
    refine snd_pure _ hA fun N S G f2 h2' a w st hx oper ho => ?_
    obtain ⟨e1, e2, e3, e4⟩ := hxo f2 hx
    have hv := st.ev x; rw [e1, hx0] at hv; simp only [R, RP] at hv
    have hrun := run_cut (P := P) hu hi' none 0 0 0 0 0 a w (Nat.le_refl _) (Nat.le_refl _) (Nat.le_refl _) (Nat.le_refl _) (bl N S G f2 h2' a w st e2) (bh N S G f2 h2' a w st e3) hmh (bm N S G f2 h2' a w st e4)
    exact ⟨.slice none 0 0, by simp only [execOp, ho, hv, Sem.run_bind, hrun, Result.andThen_ok, Sem.run_pure]; rfl, by simp [R, RP], by simp [V.bd]⟩
  · rename_i b n fl hx0
    obtain ⟨rfl, hmx, hA⟩ := hA
    obtain ⟨u, ⟨hle, hA⟩, _, bh⟩ := hiK_spec hA
    refine snd_pure _ hA fun N S G f2 h2' a w st hx oper ho => ?_
    obtain ⟨e1, e2, e3, e4⟩ := hxo f2 hx
    have hv := st.ev x; rw [e1, hx0] at hv; simp only [R] at hv
    have hb := st.evbd x; rw [e1, hx0] at hb
    obtain ⟨cap, hv, hc, hbig, hcm, hκ, _⟩ := hv
    have hrun := run_cut (P := P) hu hi' (some ⟨G.φ b, 0, none⟩) n cap 0 u cap a w hc (Nat.zero_le _) (by omega) (Nat.le_refl _) (bl N S G f2 h2' a w st e2) (bh N S G f2 h2' a w st e3) hmh (by rw [hmx]; exact .none cap)
    refine ⟨.slice (some ⟨G.φ b, 0, none⟩) u cap, ?_, ?_, by simpa [V.bd] using hb⟩
    · simp only [execOp, ho, hv, Sem.run_bind, hrun, Result.andThen_ok, Sem.run_pure]
      simp [add_zero]
    · simp only [R]; exact ⟨cap, rfl, by omega, by omega, hcm, hκ, by simp⟩
  · exact hA.elim

theorem snd_sslice {t : TypeId} {x : Operand} {lo hi : Option Operand} (hu : P.underlying t = some .string) (hA : AS (.sslice x lo hi) nb f h K) : Snd P (.slice t x lo hi none) nb f h K := by
  simp only [AS] at hA
  obtain ⟨l, hA, bl⟩ := loK_spec hA
  split at hA
  · rename_i s hx0
    obtain ⟨u, ⟨h1, h2, hA⟩, _, bh⟩ := hiK_spec hA
    refine snd_pure _ hA fun N S G f2 h2' a w st hx oper ho => ?_
    have hv := st.ev x; rw [hx x (by simp [Op.operands]), hx0] at hv; simp only [R, RP] at hv
    refine ⟨.string (s.extract l u), ?_, by simp [R, RP], by simp [V.bd]⟩
    have b1 := bl N S G f2 h2' a w st fun y e => hx y (by simp [Op.operands, e])
    have b2 := bh N S G f2 h2' a w st fun y e => hx y (by simp [Op.operands, e])
    have hrun : (Instr.sliceAt t (.string s) (lo.map a.eval) (hi.map a.eval) none).run P w = .ok (.string (s.extract l u)) w := by
      cases b1 <;> cases b2 <;> simp_all [Instr.sliceAt, Instr.slice, run_underlying hu, Instr.sliceBounds, run_sliceBound]
    simp only [execOp, ho, hv, Sem.run_bind, Option.map_none, hrun, Result.andThen_ok, Sem.run_pure]
  · exact hA.elim
end
end Go.Ab
