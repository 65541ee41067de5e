/- K2: joined from Bb9 Bb10 Bb11 Bb12 Bb13 Bb14 Bb15 Bb16 Bb17. -/
import Derived.Test.YtckjkdhmljfeeaaGreatDoorK1
import Derived.Laws.MakeOwn
import Derived.Laws.Tables
import Derived.Lib.AppendZeros
/- Each operation does in the machine what it does to abstract values: cuts, what is built, append; and all of them together. -/
set_option linter.unusedVariables false
set_option linter.unusedSimpArgs false
namespace Go.Ab
open Go.RowKit

section
variable {P : Program} {nb : Nat} {f : FV} {h : HF} {K : Kont}

/-! ### cuts -/
theorem ev_opt {N S G f2 h2 a w} (st : St N S G f2 h2 a w) {x : Option Operand} (hx : ∀ y, x = some y → ev f2 y = ev f y) {n : Nat} {i : Int} {k : IntKind} {y : Operand} (e : x = some y) (hv : ev f y = .pv (.lit (.int k i))) : a.eval y = .int k i := by
  have := st.ev y; rw [hx y e, hv] at this; simpa only [R, RP] using this

/-- a bound that the machine takes -/
inductive BoundV (a : Act) : Option Operand → Nat → Nat → Prop
  | none (d : Nat) : BoundV a none d d
  | some (x : Operand) (k : IntKind) (n d : Nat) (e : a.eval x = .int k (n : Int)) : BoundV a (some x) d n

theorem loK_spec {x : Option Operand} {Kn : Nat → Prop} (hA : loK (optE f x) Kn) :
    ∃ n, Kn n ∧ ∀ N S G f2 h2 a w, St N S G f2 h2 a w → (∀ y, x = some y → ev f2 y = ev f y) → BoundV a x 0 n := by
  unfold loK at hA
  cases x with
  | none => exact ⟨0, hA, fun _ _ _ _ _ _ _ _ _ => .none 0⟩
  | some y =>
    simp only [optE] at hA
    split at hA
    · rename_i e; cases e
    · rename_i k i e
      simp only [Option.some.injEq] at e
      obtain ⟨n, rfl, hK⟩ := hA
      exact ⟨n, hK, fun N S G f2 h2 a w st hx => .some y k n 0 (ev_opt (n := 0) st hx rfl e)⟩
    · exact hA.elim
theorem hiK_spec {x : Option Operand} {len : Nat} {Kn : Nat → Prop} (hA : hiK (optE f x) len Kn) :
    ∃ n, Kn n ∧ (x = none → n = len) ∧ ∀ N S G f2 h2 a w, St N S G f2 h2 a w → (∀ y, x = some y → ev f2 y = ev f y) → BoundV a x len n := by
  unfold hiK at hA
  cases x with
  | none => exact ⟨len, hA, fun _ => rfl, fun _ _ _ _ _ _ _ _ _ => .none len⟩
  | some y =>
    simp only [optE] at hA
    split at hA
    · rename_i e; cases e
    · rename_i k i e
      simp only [Option.some.injEq] at e
      obtain ⟨n, rfl, hK⟩ := hA
      exact ⟨n, hK, (fun h => by cases h), fun N S G f2 h2 a w st hx => .some y k n len (ev_opt (n := 0) st hx rfl e)⟩
    · exact hA.elim

theorem run_cut {t e : TypeId} {ti : TypeInfo} {lo hi mx : Option Operand} (hu : P.underlying t = some (.slice e)) (hi' : P.info? e = some ti) (A : Option Addr) (len cap l u m : Nat) (a : Act) (w : World) (hlc : len ≤ cap) (h1 : l ≤ u) (h2 : u ≤ m) (h3 : m ≤ cap)
    (bl : BoundV a lo 0 l) (bh : BoundV a hi len u) (hmh : mx.isNone = true ∨ hi.isSome = true) (bm : BoundV a mx cap m) :
    (Instr.sliceAt t (.slice A len cap) (lo.map a.eval) (hi.map a.eval) (mx.map a.eval)).run P w = .ok (.slice (if m = l then A else A.map (·.add (l * ti.size))) (u - l) (m - l)) w := by
  have h5 : (sizeOf e).run P w = .ok ti.size w := by simp [sizeOf, typeInfo, hi']
  cases bl <;> cases bh <;> cases bm <;> simp_all [Instr.sliceAt, Instr.slice, run_underlying hu, Instr.sliceBounds, run_sliceBound, h5] <;> omega
theorem snd_slice {t e : TypeId} {ti : TypeInfo} {x : Operand} {lo hi mx : Option Operand} (hu : P.underlying t = some (.slice e)) (hi' : P.info? e = some ti) (hpos : 0 < ti.size) (hmh : mx.isNone = true ∨ hi.isSome = true)
    (hA : AS (.slice ti.size x lo hi mx) nb f h K) : Snd P (.slice t x lo hi mx) nb f h K := by
  simp only [AS] at hA
  obtain ⟨l, hA, bl⟩ := loK_spec hA
  have hxo : ∀ (f2 : FV), (∀ y ∈ (Op.slice t x lo hi mx).operands.toList, ev f2 y = ev f y) → ev f2 x = ev f x ∧ (∀ y, lo = some y → ev f2 y = ev f y) ∧ (∀ y, hi = some y → ev f2 y = ev f y) ∧ (∀ y, mx = some y → ev f2 y = ev f y) := fun f2 hx =>
    ⟨hx x (by simp [Op.operands]), fun y e => hx y (by simp [Op.operands, e]), fun y e => hx y (by simp [Op.operands, e]), fun y e => hx y (by simp [Op.operands, e])⟩
  split at hA
  · rename_i sz xs hx0
    obtain ⟨rfl, hA⟩ := hA
    obtain ⟨u, hA, _, bh⟩ := hiK_spec hA
    obtain ⟨m, ⟨h1, h2, h3, hA⟩, hmn, bm⟩ := hiK_spec hA
    refine snd_pure _ hA fun N S G f2 h2' a w st hx oper ho => ?_
    obtain ⟨e1, e2, e3, e4⟩ := hxo f2 hx
    have hv := st.ev x; rw [e1, hx0] at hv; simp only [R, RP] at hv
    obtain ⟨A, n, cap, hv, hn, hc, hbig, hr⟩ := hv
    have fin : ∀ m', BoundV a mx cap m' → u ≤ m' → m' ≤ cap → ∃ v, (execOp a.eval oper).run P w = .ok (.value v) w ∧ R G (.pv (.list ti.size ((xs.take u).drop l))) v ∧ (V.pv (.list ti.size ((xs.take u).drop l))).bd S := by
      intro m' b2 h4 h5
      have hrun := run_cut (P := P) hu hi' A n cap l u m' a w hc h1 h4 h5 (bl N S G f2 h2' a w st e2) (by rw [hn]; exact bh N S G f2 h2' a w st e3) hmh b2
      refine ⟨.slice (if m' = l then A else A.map (·.add (l * ti.size))) (u - l) (m' - l), by simp only [execOp, ho, hv, Sem.run_bind, hrun, Result.andThen_ok, Sem.run_pure], ?_, by simp [V.bd]⟩
      simp only [R, RP]
      refine ⟨_, _, _, rfl, by simp; omega, by omega, by omega, ?_⟩
      by_cases h0 : u - l = 0
      · refine .inl ⟨h0, fun hA => ?_⟩
        by_cases hml : m' = l
        · omega
        · rw [if_neg hml] at hA
          rcases hr with ⟨_, hr⟩ | ⟨ad, rfl, _⟩
          · have := hr (by cases A with
              | none => rfl
              | some _ => cases hA)
            omega
          · cases hA
      · right
        rcases hr with ⟨hr, _⟩ | ⟨ad, rfl, hr⟩
        · omega
        · refine ⟨ad.add (l * ti.size), by rw [if_neg (by omega)]; rfl, RPE_shift.2 ?_⟩
          simpa using RPE_drop (n := l) (RPE_take (n := u) hr)
    cases hmx : mx with
    | none => exact fin cap (by rw [hmx]; exact .none cap) (by have := hmn hmx; omega) (Nat.le_refl _)
    | some y =>
      have := bm N S G f2 h2' a w st e4
      rw [hmx] at this
      cases this with
      | some _ k n' d e => exact fin m (by rw [hmx]; exact .some y k m cap e) h2 (by omega)
  · rename_i hx0
    obtain ⟨u, hA, _, bh⟩ := hiK_spec hA
    obtain ⟨m, ⟨rfl, rfl, rfl, hA⟩, hmn, bm⟩ := hiK_spec hA
    refine snd_pure _ hA fun N S G f2 h2' a w st hx oper ho => ?_
    obtain ⟨e1, e2, e3, e4⟩ := hxo f2 hx
    have hv := st.ev x; rw [e1, hx0] at hv; simp only [R, RP] at hv
    have hrun := run_cut (P := P) hu hi' none 0 0 0 0 0 a w (Nat.le_refl _) (Nat.le_refl _) (Nat.le_refl _) (Nat.le_refl _) (bl N S G f2 h2' a w st e2) (bh N S G f2 h2' a w st e3) hmh (bm N S G f2 h2' a w st e4)
    exact ⟨.slice none 0 0, by simp only [execOp, ho, hv, Sem.run_bind, hrun, Result.andThen_ok, Sem.run_pure]; rfl, by simp [R, RP], by simp [V.bd]⟩
  · rename_i b n fl hx0
    obtain ⟨rfl, hmx, hA⟩ := hA
    obtain ⟨u, ⟨hle, hA⟩, _, bh⟩ := hiK_spec hA
    split at hA
    case h_2 => exact hA.elim
    rename_i k hk
    refine ⟨_, _, _, hA, by simp, fun N S G f2 h2' a w st hx hrd hn oper ho => ?_⟩
    obtain ⟨e1, e2, e3, e4⟩ := hxo f2 hx
    have hv := st.ev x; rw [e1, hx0] at hv; simp only [R] at hv
    have hb := st.evbd x; rw [e1, hx0] at hb
    have hk2 : h2' b = some k := (hrd b (by simp)).trans hk
    obtain ⟨t1, t2⟩ := st.rel.trunc hk2 u
    obtain ⟨cap, hv, hc, hbig, hcm, hκ, _⟩ := hv
    have hrun := run_cut (P := P) hu hi' (some ⟨G.φ b, 0, none⟩) n cap 0 u cap a w hc (Nat.zero_le _) (by omega) (Nat.le_refl _) (bl N S G f2 h2' a w st e2) (bh N S G f2 h2' a w st e3) hmh (by rw [hmx]; exact .none cap)
    refine ⟨.slice (some ⟨G.φ b, 0, none⟩) u cap, w, G, .inl ?_, Gh.le.refl S G, t1.monoS fun b' hb' => .inl hb', t2, ?_, ?_⟩
    · simp only [execOp, ho, hv, Sem.run_bind, hrun, Result.andThen_ok, Sem.run_pure]
      simp [add_zero]
    · simp only [R]; exact ⟨cap, rfl, by omega, by omega, hcm, hκ, by simp⟩
    · simp only [V.bd] at hb ⊢; exact .inl hb
  · exact hA.elim

theorem snd_sslice {t : TypeId} {x : Operand} {lo hi : Option Operand} (hu : P.underlying t = some .string) (hA : AS (.sslice x lo hi) nb f h K) : Snd P (.slice t x lo hi none) nb f h K := by
  simp only [AS] at hA
  obtain ⟨l, hA, bl⟩ := loK_spec hA
  split at hA
  · rename_i s hx0
    obtain ⟨u, ⟨h1, h2, hA⟩, _, bh⟩ := hiK_spec hA
    refine snd_pure _ hA fun N S G f2 h2' a w st hx oper ho => ?_
    have hv := st.ev x; rw [hx x (by simp [Op.operands]), hx0] at hv; simp only [R, RP] at hv
    refine ⟨.string (s.extract l u), ?_, by simp [R, RP], by simp [V.bd]⟩
    have b1 := bl N S G f2 h2' a w st fun y e => hx y (by simp [Op.operands, e])
    have b2 := bh N S G f2 h2' a w st fun y e => hx y (by simp [Op.operands, e])
    have hrun : (Instr.sliceAt t (.string s) (lo.map a.eval) (hi.map a.eval) none).run P w = .ok (.string (s.extract l u)) w := by
      cases b1 <;> cases b2 <;> simp_all [Instr.sliceAt, Instr.slice, run_underlying hu, Instr.sliceBounds, run_sliceBound]
    simp only [execOp, ho, hv, Sem.run_bind, Option.map_none, hrun, Result.andThen_ok, Sem.run_pure]
  · exact hA.elim
end
end Go.Ab
/- Each operation does in the machine what it does to abstract values: what is built, append. -/
set_option linter.unusedVariables false
set_option linter.unusedSimpArgs false
namespace Go.Ab
open Go.RowKit

def setAll (arr : Array Value) (off : Nat) (us : Array Value) : Array Value := us.zipIdx.foldl (fun cs (c, j) => cs.setIfInBounds (off + j) c) arr
theorem setList_get (off : Nat) : ∀ (us : List Value) (m : Nat) (arr : Array Value) (k : Nat), off + m + us.length ≤ arr.size →
    ((us.zipIdx m).foldl (fun cs (c, j) => cs.setIfInBounds (off + j) c) arr).size = arr.size ∧
    ((us.zipIdx m).foldl (fun cs (c, j) => cs.setIfInBounds (off + j) c) arr)[k]? = if off + m ≤ k ∧ k < off + m + us.length then us[k - (off + m)]? else arr[k]?
  | [], m, arr, k, _ => by simp; omega
  | u :: us, m, arr, k, hl => by
    simp only [List.length_cons] at hl
    simp only [List.zipIdx_cons, List.foldl_cons]
    obtain ⟨h1, h2⟩ := setList_get off us (m + 1) (arr.setIfInBounds (off + m) u) k (by simp; omega)
    refine ⟨by rw [h1]; simp, ?_⟩
    rw [h2, Array.getElem?_setIfInBounds]
    simp only [List.length_cons]
    by_cases hk : k = off + m
    · subst hk
      rw [if_neg (by omega), if_pos rfl, if_pos (by omega), if_pos (by omega)]
      simp
    · by_cases hk2 : off + (m + 1) ≤ k ∧ k < off + (m + 1) + us.length
      · rw [if_pos hk2, if_pos (by omega), show k - (off + m) = (k - (off + (m + 1))) + 1 by omega]
        simp
      · rw [if_neg hk2, if_neg (by omega), if_neg (by omega)]
theorem setAll_get {arr : Array Value} {off : Nat} {us : Array Value} (hl : off + us.size ≤ arr.size) (k : Nat) :
    (setAll arr off us).size = arr.size ∧ (setAll arr off us)[k]? = if off ≤ k ∧ k < off + us.size then us[k - off]? else arr[k]? := by
  have := setList_get off us.toList 0 arr k (by simpa using hl)
  unfold setAll
  rw [← Array.foldl_toList, Array.toList_zipIdx]
  simpa using this
theorem spl_get : ∀ (new : List V) (cs : List V) (j k : Nat), j + new.length ≤ cs.length → (spl cs j new)[k]? = if j ≤ k ∧ k < j + new.length then new[k - j]? else cs[k]?
  | [], cs, j, k, _ => by simp [spl]; omega
  | c :: new, cs, j, k, hl => by
    simp only [List.length_cons] at hl
    rw [spl, spl_get new _ _ _ (by simp; omega), List.getElem?_set]
    simp only [List.length_cons]
    by_cases hk : k = j
    · subst hk
      rw [if_neg (by omega), if_pos rfl, if_pos (by omega), if_pos (by omega)]
      simp
    · by_cases hk2 : j + 1 ≤ k ∧ k < j + 1 + new.length
      · rw [if_pos hk2, if_pos (by omega), show k - j = (k - (j + 1)) + 1 by omega]
        simp
      · rw [if_neg hk2, if_neg (by omega), if_neg (by omega)]

/-- parts, pair by pair -/
def RParts (G : Gh) : List (Nat × V) → List (Nat × Value) → Prop
  | [], qs => qs = []
  | (i, v) :: ps, qs => ∃ u qs', qs = (i, u) :: qs' ∧ R G v u ∧ RParts G ps qs'
theorem RParts_ev {f : FV} {N S G f2 h2 a w} (st : St N S G f2 h2 a w) : ∀ (parts : List (Nat × Operand)), (∀ x ∈ parts.map (·.2), ev f2 x = ev f x) →
    RParts G (parts.map fun p => (p.1, ev f p.2)) (parts.map fun p => (p.1, a.eval p.2)) ∧ ∀ p ∈ (parts.map fun p => (p.1, ev f p.2)), p.2.bd S
  | [], _ => by simp [RParts]
  | (i, x) :: parts, hx => by
    obtain ⟨h1, h2⟩ := RParts_ev st parts fun y hy => hx y (by simp at hy ⊢; exact .inr hy)
    have e := hx x (by simp)
    simp only [List.map_cons, RParts]
    refine ⟨⟨_, _, rfl, e ▸ st.ev x, h1⟩, fun p hp => ?_⟩
    rcases List.mem_cons.1 hp with rfl | hp
    · exact e ▸ st.evbd x
    · exact h2 p hp

theorem fill_R {S : Nat → Prop} {G : Gh} {places : List (Nat × Nat)} : ∀ (ps : List (Nat × V)) (qs : List (Nat × Value)) (cs : List V) (arr : Array Value) (cs' : List V), RParts G ps qs → (∀ p ∈ ps, p.2.bd S) → RL G cs arr.toList → V.bdL S cs → (∀ u ∈ arr.toList, u.oneCell' = true) →
    fillA places cs ps = some cs' → ∃ arr', Instr.fill (places.toArray[·]?) arr qs = some arr' ∧ RL G cs' arr'.toList ∧ V.bdL S cs' ∧ ∀ u ∈ arr'.toList, u.oneCell' = true
  | [], qs, cs, arr, cs', hq, _, hr, hb, h1, he => by
    simp only [RParts] at hq; subst hq
    simp only [fillA, Option.some.injEq] at he; subst he
    exact ⟨arr, rfl, hr, hb, h1⟩
  | (i, v) :: ps, qs, cs, arr, cs', hq, hpb, hr, hb, h1, he => by
    simp only [RParts] at hq
    obtain ⟨u, qs', rfl, hu, hq⟩ := hq
    simp only [fillA] at he
    split at he
    case h_2 => cases he
    rename_i off n new hpl hnew
    split at he
    case isFalse => cases he
    rename_i hcond
    obtain ⟨hn, hle⟩ := hcond
    obtain ⟨h3, h4⟩ := cells_R hnew hu
    have hbn := cells_bd hnew (hpb (i, v) (by simp))
    have hus : u.cells.size = n := by have := RL_length h3; simp at this; omega
    have hcl : arr.size = cs.length := by have := RL_length hr; simpa using this
    have hg := fun k => setAll_get (arr := arr) (off := off) (us := u.cells) (by omega) k
    have hsp := fun k => spl_get new cs off k (by omega)
    have hr' : RL G (spl cs off new) (setAll arr off u.cells).toList := by
      refine RL_of (by rw [Array.length_toList, (hg 0).1, length_spl, hcl]) fun k c v' e1 e2 => ?_
      rw [hsp k] at e1
      rw [Array.getElem?_toList, (hg k).2] at e2
      by_cases hk : off ≤ k ∧ k < off + n
      · rw [if_pos (by omega)] at e1 e2
        obtain ⟨v2, e3, e4⟩ := RL_get h3 _ c e1
        rw [Array.getElem?_toList, e2] at e3; cases e3; exact e4
      · rw [if_neg (by omega)] at e1 e2
        obtain ⟨v2, e3, e4⟩ := RL_get hr _ c e1
        rw [Array.getElem?_toList, e2] at e3; cases e3; exact e4
    have hb' : V.bdL S (spl cs off new) := bdL_iff.2 fun c hc => by
      obtain ⟨k, hk⟩ := List.getElem?_of_mem hc
      rw [hsp k] at hk
      split at hk
      · exact bdL_iff.1 hbn c (List.mem_of_getElem? hk)
      · exact bdL_iff.1 hb c (List.mem_of_getElem? hk)
    have h1' : ∀ v' ∈ (setAll arr off u.cells).toList, v'.oneCell' = true := fun v' hv' => by
      obtain ⟨k, hk⟩ := List.getElem?_of_mem hv'
      rw [Array.getElem?_toList, (hg k).2] at hk
      split at hk
      · exact h4 v' (Array.mem_toList_iff.2 (Array.mem_of_getElem? hk))
      · exact h1 v' (Array.mem_toList_iff.2 (Array.mem_of_getElem? hk))
    obtain ⟨arr', e1, e2, e3, e4⟩ := fill_R ps qs' _ _ cs' hq (fun p hp => hpb p (by simp [hp])) hr' hb' h1' he
    refine ⟨arr', ?_, e2, e3, e4⟩
    have hp' : places.toArray[i]? = some (off, n) := by simpa using hpl
    rw [Instr.fill]
    simp only [hp']
    rw [if_neg (by simp; omega)]
    exact e1

section
variable {P : Program} {nb : Nat} {f : FV} {h : HF} {K : Kont}
theorem snd_build {t : TypeId} {parts : Array (Nat × Operand)} {o : AO} (hc : compOp P (.build t parts) = some o) (hA : AS o nb f h K) : Snd P (.build t parts) nb f h K := by
  simp only [compOp] at hc
  split at hc
  case h_2 => cases hc
  rename_i ti fields hi hu
  split at hc
  case h_2 => cases hc
  rename_i z places hz hpl
  split at hc
  case isFalse => cases hc
  rename_i hone
  simp only [Option.some.injEq] at hc; subst hc
  simp only [AS] at hA
  split at hA
  case h_2 => exact hA.elim
  rename_i cs hcs
  refine snd_pure _ hA fun N S G f2 h2 a w st hx oper ho => ?_
  obtain ⟨h1, h3⟩ := RParts_ev (f := f) st parts.toList fun x hx' => hx x (by simpa [Op.operands] using hx')
  obtain ⟨arr, e1, e2, e3, e4⟩ := fill_R _ _ (z.cells.toList.map lv) z.cells cs h1 h3 (RL_lits _) (bdL_lits _) (fun u hu => List.all_eq_true.1 hone u hu) hcs
  refine ⟨.agg arr, ?_, by simp only [R]; exact ⟨arr, rfl, e4, e2⟩, by simpa [V.bd] using e3⟩
  have hb : P.built t (parts.map fun p => (p.1, a.eval p.2)).toList = some arr := by
    unfold Program.built
    simp only [hi, hu, hz, hpl, Array.toList_map]
    exact e1
  have := run_build (P := P) w t (parts.map fun p => (p.1, a.eval p.2)) arr hb
  simp only [execOp, ho, Sem.run_bind]
  rw [show (parts.map fun (i, x) => (i, a.eval x)) = parts.map fun p => (p.1, a.eval p.2) from rfl, this]
  rfl

/-- the rows of a new slice, the machine's cells -/
structure Rows (S : Nat → Prop) (G : Gh) (sz : Nat) (xs : List (List V)) (arr : Array Value) : Prop where
  size : arr.size = xs.length * sz
  len : ∀ cs ∈ xs, cs.length = sz
  bd : ∀ cs ∈ xs, V.bdL S cs
  cell : ∀ (i j : Nat) cs c, xs[i]? = some cs → cs[j]? = some c → ∃ u, arr[i * sz + j]? = some u ∧ u.oneCell' = true ∧ R G c u
theorem fillE_R {S : Nat → Prop} {G : Gh} {sz : Nat} (hsz : 0 < sz) : ∀ (ps : List (Nat × V)) (qs : List (Nat × Value)) (xs : List (List V)) (arr : Array Value) (xs' : List (List V)), RParts G ps qs → (∀ p ∈ ps, p.2.bd S) → (∀ p ∈ ps, p.1 < xs.length) → Rows S G sz xs arr →
    fillE sz xs ps = some xs' → ∃ arr', Instr.fill (fun i => some (i * sz, sz)) arr qs = some arr' ∧ Rows S G sz xs' arr' ∧ xs'.length = xs.length
  | [], qs, xs, arr, xs', hq, _, _, hr, he => by
    simp only [RParts] at hq; subst hq
    simp only [fillE, Option.some.injEq] at he; subst he
    exact ⟨arr, rfl, hr, rfl⟩
  | (i, v) :: ps, qs, xs, arr, xs', hq, hpb, hpl, hr, he => by
    simp only [RParts] at hq
    obtain ⟨u, qs', rfl, hu, hq⟩ := hq
    simp only [fillE] at he
    split at he
    case h_2 => cases he
    rename_i new hnew
    split at he
    case isFalse => cases he
    rename_i hn
    obtain ⟨h3, h4⟩ := cells_R hnew hu
    have hbn := cells_bd hnew (hpb (i, v) (by simp))
    have hus : u.cells.size = sz := by have := RL_length h3; simp at this; omega
    have hil : i < xs.length := hpl (i, v) (by simp)
    have hfit : i * sz + sz ≤ arr.size := by
      rw [hr.size, ← Nat.succ_mul]; exact Nat.mul_le_mul_right _ hil
    have hg := fun k => setAll_get (arr := arr) (off := i * sz) (us := u.cells) (by omega) k
    have hr' : Rows S G sz (xs.set i new) (setAll arr (i * sz) u.cells) := by
      refine ⟨by rw [(hg 0).1, hr.size, List.length_set], fun cs hcs => ?_, fun cs hcs => ?_, fun k j cs c e1 e2 => ?_⟩
      · rcases List.mem_or_eq_of_mem_set hcs with hcs | rfl
        · exact hr.len cs hcs
        · exact hn
      · rcases List.mem_or_eq_of_mem_set hcs with hcs | rfl
        · exact hr.bd cs hcs
        · exact hbn
      · rw [List.getElem?_set] at e1
        rw [(hg _).2]
        by_cases hik : i = k
        · subst hik
          rw [if_pos rfl, if_pos hil] at e1
          cases e1
          have hj : j < sz := by rw [← hn]; exact (List.getElem?_eq_some_iff.1 e2).1
          obtain ⟨v2, e3, e4⟩ := RL_get h3 j c e2
          rw [Array.getElem?_toList] at e3
          exact ⟨v2, by rw [if_pos (by omega), Nat.add_sub_cancel_left]; exact e3, h4 v2 (Array.mem_toList_iff.2 (Array.mem_of_getElem? e3)), e4⟩
        · rw [if_neg hik] at e1
          have hj : j < sz := by rw [← hr.len cs (List.mem_of_getElem? e1)]; exact (List.getElem?_eq_some_iff.1 e2).1
          rw [if_neg]
          · exact hr.cell k j cs c e1 e2
          · rw [hus]
            intro ⟨q1, q2⟩
            apply hik
            rcases Nat.lt_trichotomy i k with hlt | heq | hlt
            · have := Nat.mul_le_mul_right sz (show i + 1 ≤ k by omega); rw [Nat.add_mul] at this; omega
            · exact heq
            · have := Nat.mul_le_mul_right sz (show k + 1 ≤ i by omega); rw [Nat.add_mul] at this; omega
    obtain ⟨arr', e1, e2, e3⟩ := fillE_R hsz ps qs' _ _ xs' hq (fun p hp => hpb p (by simp [hp])) (fun p hp => by rw [List.length_set]; exact hpl p (by simp [hp])) hr' he
    refine ⟨arr', ?_, e2, by rw [e3, List.length_set]⟩
    simp only [Instr.fill]
    rw [if_neg (by simp; omega)]
    exact e1

theorem made_get {z : Array Value} {n k : Nat} (hz : 0 < z.size) (hk : k < n) : (madeCells z n)[k]? = z[k % z.size]? := by
  have : k % z.size < z.size := Nat.mod_lt _ hz
  simp only [madeCells, Array.getElem?_map]
  rw [Array.getElem?_eq_getElem (by simpa using hk), Array.getElem?_eq_getElem this]
  simp [getElem!_pos, this]
theorem rows_made {S : Nat → Prop} {G : Gh} {sz n : Nat} {z : Array Value} (hsz : 0 < sz) (hz : z.size = sz) (hone : ∀ u ∈ z.toList, u.oneCell' = true) : Rows S G sz (List.replicate n (z.toList.map lv)) (madeCells z (n * sz)) := by
  refine ⟨by simp [size_madeCells], fun cs hcs => ?_, fun cs hcs => ?_, fun i j cs c e1 e2 => ?_⟩
  · rw [List.eq_of_mem_replicate hcs]; simpa using hz
  · rw [List.eq_of_mem_replicate hcs]; exact bdL_lits _
  · have hin : i < n := by have := (List.getElem?_eq_some_iff.1 e1).1; simpa using this
    have : cs = z.toList.map lv := List.eq_of_mem_replicate (List.mem_of_getElem? e1)
    subst this
    simp only [List.getElem?_map, Option.map_eq_some_iff] at e2
    obtain ⟨u, e3, rfl⟩ := e2
    have hj : j < sz := by rw [← hz]; have := (List.getElem?_eq_some_iff.1 e3).1; simpa using this
    refine ⟨u, ?_, hone u (List.mem_of_getElem? e3), by simp [R, lv, RP]⟩
    rw [made_get (by omega) (by have := Nat.mul_le_mul_right sz (show i + 1 ≤ n by omega); rw [Nat.add_mul] at this; omega), hz, Nat.mul_comm i, Nat.mul_add_mod, Nat.mod_eq_of_lt hj]
    simpa using e3

theorem outc_rows {N S G f2 h2 a w} (st : St N S G f2 h2 a w) (hn : ¬ S nb) (ty sz : Nat) (arr : Array Value) (xs : List (List V)) (hsz : 0 < sz) (cells : Array Value) (hcs : cells.size = arr.size + 0 ∨ arr.size ≤ cells.size) (hr : Rows S G sz xs arr)
    (hpre : ∀ k, k < arr.size → cells[k]? = arr[k]?) (res : Result Next) (n cap : Nat) (fl : Bool) (hxl : xs.length = n) (hcap : n ≤ cap) (hbig : n ≤ big) (hcm : cap ≤ maxLen) (hcc : cap * sz = cells.size) (hfl : fl = true → cap = n)
    (hres : res = .ok (.value (.slice (some ⟨w.heap.size, 0, none⟩) n cap)) (w.alloc (.cells cells ty))) : Outc S G h2 w res (.row nb n fl) [(nb, some ⟨false, ty, sz, xs, none⟩)] := by
  refine outc_alloc st hn ty sz cells xs res _ _ hres (fun i cs e => hr.len cs (List.mem_of_getElem? e)) ?_ (fun i j cs c e1 e2 => ?_) hr.bd ?_ (by simp [V.bd, SS])
  · rw [hxl, ← hcc]; exact Nat.mul_le_mul_right _ hcap
  · obtain ⟨u, e3, e4⟩ := hr.cell i j cs c e1 e2
    exact ⟨u, by rw [hpre _ (Array.getElem?_eq_some_iff.1 e3).1]; exact e3, e4⟩
  · simp only [R]; exact ⟨cap, by simp [Gh.new], hcap, hbig, hcm, by simpa [Gh.new] using hcc, hfl⟩

theorem range0 {α : Type} (g : Nat → α) {m : Nat} (h : m = 0) : (Array.range m).map g = #[] := by subst h; simp
theorem run_bslice {t e : TypeId} {len n : Nat} {ti : TypeInfo} {zv : Value} {w : World} (hu : P.underlying t = some (.slice e)) (hi : P.info? e = some ti) (hz : ti.zero = some zv) (hsz : ti.size = n) (ps : Array (Nat × Value)) (arr : Array Value)
    (hlim : len * n ≤ 2 ^ 24) (hf : Instr.fill (fun i => some (i * n, n)) (madeCells zv.cells (len * n)) ps.toList = some arr) :
    (Instr.buildSlice t len ps).run P w = .ok (.slice (some ⟨w.heap.size, 0, none⟩) len len) (w.alloc (.cells arr e)) := by
  have h5 : (sizeOf e).run P w = .ok n w := by simp [sizeOf, typeInfo, hi, hsz]
  have h6 : (zeroValue e).run P w = .ok zv w := by simp [zeroValue, typeInfo, hi, hz]
  have hlim' : ¬ (len * n > 2 ^ 24) := by omega
  have hfin : (newRow e arr).run P w = .ok ⟨w.heap.size, 0, none⟩ (w.alloc (.cells arr e)) := by simp [newRow]
  simp only [madeCells] at hf
  simp only [Instr.buildSlice, Sem.run_bind, run_underlying hu, Result.andThen_ok, h5]
  rw [if_neg hlim']
  by_cases h0 : len * n = 0
  · rw [range0 _ h0] at hf
    simp only [h0, if_true, Sem.run_bind, Sem.run_pure, Result.andThen_ok]
    rw [range0 _ rfl, hf]
    simp only [Sem.run_bind, hfin, Result.andThen_ok, Sem.run_pure]
  · simp only [h0, if_false, Sem.run_bind, h6, Sem.run_pure, Result.andThen_ok]
    rw [hf]
    simp only [Sem.run_bind, hfin, Result.andThen_ok, Sem.run_pure]
theorem snd_bslice {t : TypeId} {len : Nat} {parts : Array (Nat × Operand)} {o : AO} (hc : compOp P (.buildSlice t len parts) = some o) (hA : AS o nb f h K) : Snd P (.buildSlice t len parts) nb f h K := by
  simp only [compOp] at hc
  split at hc
  case h_2 => cases hc
  rename_i e hu
  split at hc
  case h_2 => cases hc
  rename_i n z hz0
  split at hc
  case isFalse => cases hc
  rename_i hcond
  simp only [Option.some.injEq] at hc; subst hc
  obtain ⟨ti, zv, hi, hz, hpos, hsz, hvs, rfl, hzl, hone⟩ := zeroOf_spec hz0
  simp only [AS] at hA
  split at hA
  case h_2 => exact hA.elim
  rename_i xs hxs
  refine ⟨_, [], _, hA, by simp, fun N S G f2 h2 a w st hx _ hn oper ho => ?_⟩
  obtain ⟨h1, h3⟩ := RParts_ev (f := f) st parts.toList fun x hx' => hx x (by simpa [Op.operands] using hx')
  have hall := List.all_eq_true.1 hcond.2
  obtain ⟨arr, e1, e2, e3⟩ := fillE_R hpos _ _ (List.replicate len (zv.cells.toList.map lv)) (madeCells zv.cells (len * n)) xs h1 h3 (fun p hp => by
    obtain ⟨q, hq, rfl⟩ := List.mem_map.1 hp
    simpa using hall q hq) (rows_made hpos hvs hone) hxs
  have hlen : xs.length = len := by simpa using e3
  refine outc_rows st hn e n arr xs hpos arr (.inr (Nat.le_refl _)) e2 (fun _ _ => rfl) _ len len true hlen (Nat.le_refl _) ?_ ?_ (by rw [e2.size, hlen]) (by simp) ?_
  · have := hcond.1
    have h2 : len ≤ len * n := Nat.le_mul_of_pos_right _ hpos
    unfold big; omega
  · have := hcond.1
    have h2 : len ≤ len * n := Nat.le_mul_of_pos_right _ hpos
    unfold maxLen; omega
  · have hr := run_bslice (P := P) (w := w) hu hi hz hsz (parts.map fun p => (p.1, a.eval p.2)) arr hcond.1 (by simpa using e1)
    simp only [execOp, ho, Sem.run_bind]
    rw [show (parts.map fun (i, x) => (i, a.eval x)) = parts.map fun p => (p.1, a.eval p.2) from rfl, hr]
    rfl

theorem snd_mkslice {t : TypeId} {l c : Operand} {o : AO} (hc : compOp P (.makeSlice t l c) = some o) (hA : AS o nb f h K) : Snd P (.makeSlice t l c) nb f h K := by
  simp only [compOp] at hc
  split at hc
  case h_2 => cases hc
  rename_i e hu
  split at hc
  case h_2 => cases hc
  rename_i ti0 n z hi0 hz0
  split at hc
  case isFalse => cases hc
  rename_i hby
  simp only [Option.some.injEq] at hc; subst hc
  obtain ⟨ti, zv, hi, hz, hpos, hsz, hvs, rfl, hzl, hone⟩ := zeroOf_spec hz0
  have : ti0 = ti := by rw [hi] at hi0; exact (Option.some.inj hi0).symm
  subst this
  simp only [AS] at hA
  split at hA
  case h_2 => exact hA.elim
  rename_i kl p kc q hl0 hc0
  obtain ⟨ln, cn, rfl, rfl, hlc, hbig, hA⟩ := hA
  refine ⟨_, [], _, hA, by simp, fun N S G f2 h2 a w st hx _ hn oper ho => ?_⟩
  have h1 := st.ev l; rw [hx l (by simp [Op.operands]), hl0] at h1; simp only [R, RP] at h1
  have h2' := st.ev c; rw [hx c (by simp [Op.operands]), hc0] at h2'; simp only [R, RP] at h2'
  unfold big at hbig
  have hb1 : (ti0.bytes : Int) * (cn : Int) ≤ 281474976710656 := by
    have : ti0.bytes * cn ≤ 128 * 1099511627776 := Nat.mul_le_mul hby hbig
    have h3 : ((ti0.bytes * cn : Nat) : Int) ≤ 281474976710656 := by omega
    rwa [Int.natCast_mul] at h3
  have hr := run_make (P := P) w t e ti0 zv hu hi hz kl kc ln cn (by omega) (by omega) hb1 (by omega)
  simp only [Int.toNat_natCast, hsz] at hr
  refine outc_rows st hn e n (madeCells zv.cells (ln * n)) _ hpos (madeCells zv.cells (cn * n)) (.inr ?_) (rows_made hpos hvs hone) (fun k hk => ?_) _ ln cn _ (by simp) hlc (by unfold big; omega) (by unfold maxLen; omega) (by rw [size_madeCells]) (fun hfl => ?_) ?_
  · simp only [size_madeCells]; exact Nat.mul_le_mul_right _ hlc
  · rw [size_madeCells] at hk
    have := Nat.mul_le_mul_right n hlc
    rw [made_get (by omega) hk, made_get (by omega) (by omega)]
  · simpa using (beq_iff_eq.1 hfl).symm
  · simp only [execOp, ho, h1, h2', Sem.run_bind, hr, Result.andThen_ok, Sem.run_pure]

theorem srcK_spec {sz : Nat} {y : Operand} {K' : List (List V) → List Nat → Prop} (hsz : 0 < sz) (hA : srcK sz h (ev f y) K') : ∃ ys rd, K' ys rd ∧ ∀ N S G f2 h2 a w, St N S G f2 h2 a w → ev f2 y = ev f y → (∀ b ∈ rd, h2 b = h b) →
    ∃ A c, a.eval y = .slice A ys.length c ∧ Src G sz w A ys ∧ ∀ cs ∈ ys, V.bdL S cs := by
  unfold srcK at hA
  split at hA
  · rename_i sz' xs hy0
    obtain ⟨rfl, hall, hA⟩ := hA
    refine ⟨_, _, hA, fun N S G f2 h2 a w st hy _ => ?_⟩
    have hv := st.ev y; rw [hy, hy0] at hv; simp only [R, RP] at hv
    obtain ⟨A, n, c, hv, hn, _, _, hr⟩ := hv
    have hbd : ∀ cs ∈ xs.map PV.vcells, V.bdL S cs := fun cs hcs => by
      obtain ⟨x, _, rfl⟩ := List.mem_map.1 hcs; exact bdL_pv _
    refine ⟨A, c, by rw [hv, hn]; simp, ⟨fun cs hcs => ?_, ?_⟩, hbd⟩
    · obtain ⟨x, hx, rfl⟩ := List.mem_map.1 hcs; simpa [PV.vcells] using hall x hx
    · rcases hr with ⟨hr, _⟩ | ⟨ad, rfl, hr⟩
      · left; rw [hn] at hr; have := List.eq_nil_of_length_eq_zero hr; simp [this]
      · right
        have hcell : ∀ k, k < xs.length * sz' → ∃ u, G.I (ad.add k) = some u ∧ u.oneCell' = true ∧ ∀ x, xs[k / sz']? = some x → ∀ c, x.cells[k % sz']? = some c → RP G.I c u := fun k hk => by
          have hi : k / sz' < xs.length := (Nat.div_lt_iff_lt_mul hsz).2 hk
          have hx := List.getElem?_eq_getElem hi
          obtain ⟨h1, h2⟩ := RPE_iff.1 hr _ _ hx
          have hj : k % sz' < xs[k / sz'].cells.length := by rw [h1]; exact Nat.mod_lt _ hsz
          obtain ⟨u, e1, e2, e3⟩ := RPC_iff.1 h2 _ _ (List.getElem?_eq_getElem hj)
          refine ⟨u, ?_, e2, fun x hx2 c hc => ?_⟩
          · rw [Nat.zero_add, Nat.mul_comm, Nat.div_add_mod] at e1; exact e1
          · rw [hx] at hx2; cases hx2; rw [List.getElem?_eq_getElem hj] at hc; cases hc; exact e3
        have hget : ∀ j u, ((List.range (xs.length * sz')).map fun k => (G.I (ad.add k)).getD undef)[j]? = some u → j < xs.length * sz' ∧ G.I (ad.add j) = some u := fun j u hu => by
          simp only [List.getElem?_map, Option.map_eq_some_iff] at hu
          obtain ⟨j', hj', rfl⟩ := hu
          have hlt : j < xs.length * sz' := by have := (List.getElem?_eq_some_iff.1 hj').1; simpa using this
          have : j' = j := by rw [List.getElem?_range hlt] at hj'; simpa using hj'.symm
          subst this
          obtain ⟨u, e, _⟩ := hcell j' hlt
          exact ⟨hlt, by rw [e]; rfl⟩
        refine ⟨ad, (List.range (xs.length * sz')).map fun k => (G.I (ad.add k)).getD undef, rfl, by simp, fun j u hu => st.rel.imm.ok _ _ (hget j u hu).2, fun u hu => ?_, fun i j cs c e1 e2 => ?_⟩
        · obtain ⟨k, hk⟩ := List.getElem?_of_mem hu
          obtain ⟨h1, h2⟩ := hget k u hk
          obtain ⟨u', e, e', _⟩ := hcell k h1
          rw [e] at h2; cases h2; exact e'
        · simp only [List.getElem?_map, Option.map_eq_some_iff] at e1
          obtain ⟨x, hx, rfl⟩ := e1
          simp only [PV.vcells, List.getElem?_map, Option.map_eq_some_iff] at e2
          obtain ⟨q, hq, rfl⟩ := e2
          have hj : j < sz' := by rw [← hall x (List.mem_of_getElem? hx)]; exact (List.getElem?_eq_some_iff.1 hq).1
          have hi : i < xs.length := (List.getElem?_eq_some_iff.1 hx).1
          have hk : i * sz' + j < xs.length * sz' := by have := Nat.mul_le_mul_right sz' (show i + 1 ≤ xs.length by omega); rw [Nat.add_mul] at this; omega
          obtain ⟨u, e, _, e3⟩ := hcell _ hk
          refine ⟨u, ?_, ?_⟩
          · rw [List.getElem?_map, List.getElem?_range hk]; simp [e]
          · have h1 : (i * sz' + j) / sz' = i := by rw [Nat.mul_comm, Nat.mul_add_div hsz, Nat.div_eq_of_lt hj]; rfl
            have h2 : (i * sz' + j) % sz' = j := by rw [Nat.mul_comm, Nat.mul_add_mod, Nat.mod_eq_of_lt hj]
            simp only [R]
            exact e3 x (by rw [h1]; exact hx) q (by rw [h2]; exact hq)
  · rename_i hy0
    refine ⟨_, _, hA, fun N S G f2 h2 a w st hy _ => ?_⟩
    have hv := st.ev y; rw [hy, hy0] at hv; simp only [R, RP] at hv
    exact ⟨none, 0, hv, ⟨by simp, .inl rfl⟩, by simp⟩
  · rename_i ad cp hy0
    refine ⟨_, _, hA, fun N S G f2 h2 a w st hy _ => ?_⟩
    have hv := st.ev y; rw [hy, hy0] at hv; simp only [R, RP] at hv
    exact ⟨some ad, cp, hv, ⟨by simp, .inl rfl⟩, by simp⟩
  · rename_i b m fl hy0
    split at hA
    case h_2 => exact hA.elim
    rename_i k hk
    obtain ⟨hks, hml, hA⟩ := hA
    refine ⟨_, _, hA, fun N S G f2 h2 a w st hy hr => ?_⟩
    have hv := st.ev y; rw [hy, hy0] at hv; simp only [R] at hv
    obtain ⟨cap, hv, hc, _⟩ := hv
    have hk2 : h2 b = some k := (hr b (by simp)).trans hk
    obtain ⟨arr, e, rr⟩ := st.rel.blk b k hk2
    have hfit : m * k.sz ≤ arr.size := Nat.le_trans (Nat.mul_le_mul_right _ hml) rr.fits
    refine ⟨_, cap, by rw [hv, List.length_take, Nat.min_eq_left hml], ⟨fun cs hcs => ?_, ?_⟩, fun cs hcs => st.rel.bd b k hk2 cs (List.mem_of_mem_take hcs)⟩
    · obtain ⟨i, hi⟩ := List.getElem?_of_mem (List.mem_of_mem_take hcs)
      rw [← hks]; exact rr.len i cs hi
    · right
      refine ⟨_, arr.toList.take (m * k.sz), rfl, by simp [Nat.min_eq_left hml, hks] at hfit ⊢; omega, fun j u hu => ?_, fun u hu => ?_, fun i j cs c e1 e2 => ?_⟩
      · rw [add_plain', Nat.zero_add, cell_arr e]
        rw [List.getElem?_take] at hu
        split at hu
        · simpa using hu
        · cases hu
      · obtain ⟨j, hj⟩ := List.getElem?_of_mem hu
        rw [List.getElem?_take] at hj
        split at hj
        case isFalse => cases hj
        rename_i hjlt
        have hpos : 0 < k.sz := by omega
        have hi : j / k.sz < k.xs.length := Nat.lt_of_lt_of_le ((Nat.div_lt_iff_lt_mul hpos).2 hjlt) hml
        have hx := List.getElem?_eq_getElem hi
        have hjm : j % k.sz < (k.xs[j / k.sz]).length := by rw [rr.len _ _ hx]; exact Nat.mod_lt _ hpos
        obtain ⟨v, q1, q2, _⟩ := rr.cell _ _ _ _ hx (List.getElem?_eq_getElem hjm)
        rw [Nat.mul_comm, Nat.div_add_mod] at q1
        rw [Array.getElem?_toList, q1] at hj; cases hj; exact q2
      · rw [List.getElem?_take] at e1
        split at e1
        case isFalse => cases e1
        rename_i him
        obtain ⟨u, q1, _, q3⟩ := rr.cell i j cs c e1 e2
        have hj : j < k.sz := by rw [← rr.len i cs e1]; exact (List.getElem?_eq_some_iff.1 e2).1
        refine ⟨u, ?_, q3⟩
        rw [← hks, take_get (by have := Nat.mul_le_mul_right k.sz (show i + 1 ≤ m by omega); rw [Nat.add_mul] at this; omega), Array.getElem?_toList]; exact q1
  · exact hA.elim
end
end Go.Ab
/- append; all the operations together. -/
set_option linter.unusedVariables false
set_option linter.unusedSimpArgs false
namespace Go.Ab
open Go.RowKit

section
variable {P : Program} {nb : Nat} {f : FV} {h : HF} {K : Kont}

theorem run_append {x y : Operand} {t : TypeId} {a : Act} {w w' : World} {u v1 v2 : Value} {oper : Oper} (ho : oper.op = .call { callee := .builtin .append, args := #[x, y], argTypes := #[t, t] }) (h1 : a.eval x = v1) (h2 : a.eval y = v2)
    (hr : ∀ ty, (Builtin.append_ #[t, t] ty #[v1, v2]).run P w = .ok u w' ) : (execOp a.eval oper).run P w = .ok (.value u) w' := by
  simp [execOp, ho, resolve, invoke, builtin, h1, h2, hr]

theorem snd_app {c : Call} {x y : Operand} {t e : TypeId} {ti : TypeInfo} {n : Nat} {z : List Value} (hb : c.callee = .builtin .append) (ha : c.args.toList = [x, y]) (ht : c.argTypes.toList = [t, t])
    (hu : P.underlying t = some (.slice e)) (hi0 : P.info? e = some ti) (hz0 : zeroOf P e = some (n, z)) (hby : ti.bytes ≤ 128) (hA : AS (.app e n x y) nb f h K) : Snd P (.call c) nb f h K := by
  obtain ⟨callee, args, tys⟩ := c
  simp only at hb ha ht; subst hb
  have ha' : args = #[x, y] := by rw [← Array.toArray_toList (xs := args), ha]
  have ht' : tys = #[t, t] := by rw [← Array.toArray_toList (xs := tys), ht]
  subst ha'; subst ht'
  obtain ⟨ti', zv, hi, hz, hpos, hsz, hvs, rfl, hzl, hone⟩ := zeroOf_spec hz0
  have : ti = ti' := by rw [hi] at hi0; exact (Option.some.inj hi0).symm
  subst this
  have bytes : ∀ m : Nat, m ≤ big → m * ti.bytes ≤ 140737488355328 := fun m hm => by
    unfold big at hm
    have := Nat.mul_le_mul hm hby
    omega
  simp only [AS] at hA
  obtain ⟨ys, rd, hA, hsrc⟩ := srcK_spec hpos hA
  have ops : ∀ (f2 : FV), (∀ o ∈ (Op.call { callee := .builtin .append, args := #[x, y], argTypes := #[t, t] }).operands.toList, ev f2 o = ev f o) → ev f2 x = ev f x ∧ ev f2 y = ev f y := fun f2 hx => ⟨hx x (by simp [Op.operands, Call.operands]), hx y (by simp [Op.operands, Call.operands])⟩
  split at hA
  · rename_i hx0
    rcases hA with ⟨rfl, hA⟩ | ⟨hne, hbig, hA⟩
    · refine ⟨_, _, _, hA, by simp, fun N S G f2 h2 a w st hx hr hn oper ho => ?_⟩
      obtain ⟨e1, e2⟩ := ops f2 hx
      have hv := st.ev x; rw [e1, hx0] at hv; simp only [R, RP] at hv
      obtain ⟨A, c, hy, hs, hbd⟩ := hsrc N S G f2 h2 a w st e2 hr
      have hrun := run_append_zero (P := P) t oper.type e ti hu hi none A 0 0 c (Nat.le_refl _) w
      refine ⟨.slice none 0 0, w, G, .inl ?_, Gh.le.refl S G, st.rel.monoS fun b hb => .inl hb, Tr.refl _ _ _, by simp [R, RP], by simp [V.bd]⟩
      rw [List.length_nil] at hy
      simp [execOp, ho, resolve, invoke, builtin, hv, hy, hrun]
    refine ⟨_, _, _, hA, by simp, fun N S G f2 h2 a w st hx hr hn oper ho => ?_⟩
    obtain ⟨e1, e2⟩ := ops f2 hx
    have hv := st.ev x; rw [e1, hx0] at hv; simp only [R, RP] at hv
    obtain ⟨A, c, hy, hs, hbd⟩ := hsrc N S G f2 h2 a w st e2 hr
    have hS : ∀ b, SS S nb b → SD S [(nb, some ⟨false, e, n, ys, none⟩)] b := fun b hb => by
      rcases hb with hb | rfl
      · exact .inl hb
      · exact .inr ⟨_, List.mem_singleton.2 rfl⟩
    have key : ∀ ty, ∃ u w' G', (Builtin.append_ #[t, t] ty #[.slice none 0 0, .slice A ys.length c]).run P w = .ok u w' ∧ Gh.le S G G' ∧
        Rel (SS S nb) G' (upd h2 nb (some ⟨false, e, n, [] ++ ys, none⟩)) w' ∧ Tr G h2 w G' (upd h2 nb (some ⟨false, e, n, [] ++ ys, none⟩)) w' ∧ R G' (.row nb (0 + ys.length) false) u := fun ty =>
      st.rel.append_new (P := P) (nb := nb) hn n e t ty ti zv hu hi hz hsz hvs hpos none A c 0 [] ys rfl ⟨by simp, .inl rfl⟩ hs hne (by simp) hbd (fun _ => rfl) (bytes _ (by omega)) (by omega)
    obtain ⟨u, w', G', hrun, hle, hrel, htr, hR⟩ := key oper.type
    simp only [List.nil_append, Nat.zero_add] at hrel htr hR
    refine ⟨u, w', G', .inl ?_, hle, hrel.monoS hS, htr, hR, by simp only [V.bd]; exact hS nb (.inr rfl)⟩
    simp [execOp, ho, resolve, invoke, builtin, hv, hy, hrun]
  · rename_i b m full hx0
    split at hA
    case h_2 => exact hA.elim
    rename_i k hk
    obtain ⟨rfl, rfl, rfl, hbig, hA⟩ := hA
    split at hA
    · rename_i hro
      obtain ⟨hfull, hpm, hne, hA⟩ := hA
      refine ⟨_, _, _, hA, by simp, fun N S G f2 h2 a w st hx hr hn oper ho => ?_⟩
      obtain ⟨e1, e2⟩ := ops f2 hx
      have hv := st.ev x; rw [e1, hx0] at hv; simp only [R] at hv
      obtain ⟨cap, hv, hc, _, hcm, hκ, hfc⟩ := hv
      have hce : cap = k.xs.length := hfc hfull
      subst hce
      have hk2 : h2 b = some k := (hr b (by simp)).trans hk
      obtain ⟨arr, e', rr⟩ := st.rel.blk b k hk2
      obtain ⟨A, c, hy, hs, hbd⟩ := hsrc N S G f2 h2 a w st e2 fun b' hb' => hr b' (by simp [hb'])
      have hS : ∀ b, SS S nb b → SD S [(nb, some ⟨false, k.ty, k.sz, k.xs ++ ys, none⟩)] b := fun b hb => by
        rcases hb with hb | rfl
        · exact .inl hb
        · exact .inr ⟨_, List.mem_singleton.2 rfl⟩
      have hsx : Src G k.sz w (some ⟨G.φ b, 0, none⟩) k.xs := by
        refine ⟨fun cs hcs => ?_, .inr ⟨_, arr.toList.take (k.xs.length * k.sz), rfl, ?_, fun j u hu => ?_, fun u hu => ?_, fun i j cs c e1 e2 => ?_⟩⟩
        · obtain ⟨i, hi⟩ := List.getElem?_of_mem hcs; exact rr.len i cs hi
        · have := rr.fits; simp; omega
        · rw [add_plain', Nat.zero_add, cell_arr e']
          rw [List.getElem?_take] at hu
          split at hu
          · simpa using hu
          · cases hu
        · obtain ⟨j, hj⟩ := List.getElem?_of_mem hu
          rw [List.getElem?_take] at hj
          split at hj
          case isFalse => cases hj
          rename_i hjlt
          have hi : j / k.sz < k.xs.length := (Nat.div_lt_iff_lt_mul hpos).2 hjlt
          have hxx := List.getElem?_eq_getElem hi
          have hjm : j % k.sz < (k.xs[j / k.sz]).length := by rw [rr.len _ _ hxx]; exact Nat.mod_lt _ hpos
          obtain ⟨v, q1, q2, _⟩ := rr.cell _ _ _ _ hxx (List.getElem?_eq_getElem hjm)
          rw [Nat.mul_comm, Nat.div_add_mod] at q1
          rw [Array.getElem?_toList, q1] at hj; cases hj; exact q2
        · obtain ⟨u, q1, _, q3⟩ := rr.cell i j cs c e1 e2
          have hj : j < k.sz := by rw [← rr.len i cs e1]; exact (List.getElem?_eq_some_iff.1 e2).1
          have hi : i < k.xs.length := (List.getElem?_eq_some_iff.1 e1).1
          refine ⟨u, ?_, q3⟩
          rw [take_get (by have := Nat.mul_le_mul_right k.sz (show i + 1 ≤ k.xs.length by omega); rw [Nat.add_mul] at this; omega), Array.getElem?_toList]; exact q1
      obtain ⟨u, w', G', hrun, hle, hrel, htr, hR⟩ := st.rel.append_new (P := P) (nb := nb) hn k.sz k.ty t oper.type ti zv hu hi hz hsz hvs hpos (some ⟨G.φ b, 0, none⟩) A c k.xs.length k.xs ys rfl hsx hs hne (st.rel.bd b k hk2) hbd (fun h0 => by omega) (bytes _ hbig) hbig
      refine ⟨u, w', G', .inl ?_, hle, hrel.monoS hS, htr, hR, by simp only [V.bd]; exact hS nb (.inr rfl)⟩
      simp [execOp, ho, resolve, invoke, builtin, hv, hy, hrun]
    · rename_i hro
      refine ⟨_, _, _, hA, (fun b' k' hb' => by rcases (by simpa using hb' : (b' = b ∧ k' = none) ∨ _) with ⟨rfl, _⟩ | ⟨rfl, _⟩ <;> simp), fun N S G f2 h2 a w st hx hr hn oper ho => ?_⟩
      obtain ⟨e1, e2⟩ := ops f2 hx
      have hv := st.ev x; rw [e1, hx0] at hv; simp only [R] at hv
      obtain ⟨cap, hv, hc, _, hcm, hκ, hfc⟩ := hv
      have hk2 : h2 b = some k := (hr b (by simp)).trans hk
      obtain ⟨A, c, hy, hs, hbd⟩ := hsrc N S G f2 h2 a w st e2 fun b' hb' => hr b' (by simp [hb'])
      have hS : ∀ b', SS S nb b' → SD S [(b, none), (nb, some ⟨false, k.ty, k.sz, k.xs ++ ys, none⟩)] b' := fun b hb => by
        rcases hb with hb | rfl
        · exact .inl hb
        · exact .inr ⟨_, by simp; rfl⟩
      obtain ⟨u, w', G', hrun, hle, hrel, htr, hR⟩ := st.rel.append_own (P := P) (nb := nb) hn hk2 (by simpa using hro) cap hc hcm hκ t oper.type ti zv hu hi hz hsz hvs hpos A c ys hs hbd (bytes _ hbig) hbig
      refine ⟨u, w', G', .inl ?_, hle, hrel.monoS hS, htr, hR, by simp only [V.bd]; exact hS nb (.inr rfl)⟩
      simp [execOp, ho, resolve, invoke, builtin, hv, hy, hrun]
  · exact hA.elim

theorem snd_appz {c : Call} {x y : Operand} {t t' e : TypeId} {kn : IntKind} {ti : TypeInfo} {n : Nat} {z : List Value} (hb : c.callee = .builtin .append) (ha : c.args.toList = [x, y]) (ht : c.argTypes.toList = [t, t'])
    (hu : P.underlying t = some (.slice e)) (hu' : P.underlying t' = some (.int kn)) (hi0 : P.info? e = some ti) (hz0 : zeroOf P e = some (n, z)) (hby : ti.bytes ≤ 128) (hA : AS (.appz e n z x y) nb f h K) : Snd P (.call c) nb f h K := by
  obtain ⟨callee, args, tys⟩ := c
  simp only at hb ha ht; subst hb
  have ha' : args = #[x, y] := by rw [← Array.toArray_toList (xs := args), ha]
  have ht' : tys = #[t, t'] := by rw [← Array.toArray_toList (xs := tys), ht]
  subst ha'; subst ht'
  obtain ⟨ti', zv, hi, hz, hpos, hsz, hvs, rfl, hzl, hone⟩ := zeroOf_spec hz0
  have : ti = ti' := by rw [hi] at hi0; exact (Option.some.inj hi0).symm
  subst this
  simp only [AS] at hA
  split at hA
  case h_2 => exact hA.elim
  rename_i kx q hx0 hy0
  obtain ⟨m, rfl, hm0, hbig, hA⟩ := hA
  refine ⟨_, [], _, hA, by simp, fun N S G f2 h2 a w st hx _ hn oper ho => ?_⟩
  have h1 := st.ev x; rw [hx x (by simp [Op.operands, Call.operands]), hx0] at h1; simp only [R, RP] at h1
  have h2' := st.ev y; rw [hx y (by simp [Op.operands, Call.operands]), hy0] at h2'; simp only [R, RP] at h2'
  have hbig' := hbig
  unfold big at hbig'
  have hb1 : m * ti.bytes ≤ 281474976710656 := by have := Nat.mul_le_mul hbig' hby; omega
  have hr := Go.Lib.run_append_nil_zeros (P := P) w t t' oper.type e ti zv kx kn hu hu' hi hz m hm0 (by omega) (by omega) hb1
  have hge := grownCap_ge w m 0 e
  have hcm : grownCap w m 0 e ≤ maxLen := grownCap_le_maxLen w m 0 e (by unfold maxLen; omega)
  have zc : ∀ j, Builtin.zeroCells zv.cells j = madeCells zv.cells (j * n) := fun j => by simp only [Builtin.zeroCells, madeCells, hvs]
  have st' : St N S G f2 h2 a w.drew := ⟨st.rel.drew, st.fr, st.bd, st.size, st.defers⟩
  have ho' := outc_rows st' hn e n (madeCells zv.cells (m * n)) _ hpos (madeCells zv.cells (m * n) ++ madeCells zv.cells ((grownCap w m 0 e - m) * n)) (.inr (by simp)) (rows_made hpos hvs hone)
    (fun k hk => by rw [Array.getElem?_append_left hk]) ((execOp a.eval oper).run P w) m (grownCap w m 0 e) false (by simp) hge hbig hcm (by
      simp only [Array.size_append, size_madeCells, ← Nat.add_mul]; congr 1; omega) (by simp) (by
      simp only [execOp, ho, resolve, invoke, builtin, Sem.run_bind, Sem.run_pure, Result.andThen_ok, List.map_toArray, List.map_cons, List.map_nil, h1, h2', hr, zc]
      rfl)
  obtain ⟨u, w', G', hres, g1, g2, g3, g4, g5⟩ := ho'
  exact ⟨u, w', G', hres, g1, g2, ((Tr.refl G h2 w).drew).trans g3, g4, g5⟩
theorem snd_capn {c : Call} {x : Operand} {t e : TypeId} (hb : c.callee = .builtin .cap) (ha : c.args.toList = [x]) (ht : c.argTypes.toList = [t]) (hu : P.underlying t = some (.slice e)) (hA : AS (.capn x) nb f h K) : Snd P (.call c) nb f h K := by
  obtain ⟨callee, args, tys⟩ := c
  simp only at hb ha ht; subst hb
  have ha' : args = #[x] := by rw [← Array.toArray_toList (xs := args), ha]
  have ht' : tys = #[t] := by rw [← Array.toArray_toList (xs := tys), ht]
  subst ha'; subst ht'
  simp only [AS] at hA
  split at hA
  case h_2 => exact hA.elim
  rename_i hx0
  refine snd_pure _ hA fun N S G f2 h2 a w st hx oper ho => ?_
  have h1 := st.ev x; rw [hx x (by simp [Op.operands, Call.operands]), hx0] at h1; simp only [R, RP] at h1
  refine ⟨.int .i64 0, ?_, by simp [R, RP], by simp [V.bd]⟩
  simp [execOp, ho, h1, resolve, invoke, builtin, Builtin.cap_, run_underlying hu, goInt]
theorem AS_sound {op : Op} {o : AO} (hc : compOp P op = some o) (hA : AS o nb f h K) : Snd P op nb f h K := by
  cases op with
  | move x => simp only [compOp, Option.some.injEq] at hc; subst hc; exact snd_move hA
  | assign x => simp only [compOp, Option.some.injEq] at hc; subst hc; exact snd_assign hA
  | pick c x y => simp only [compOp, Option.some.injEq] at hc; subst hc; exact snd_pick hA
  | alloc e => exact snd_alloc hc hA
  | box e x => exact snd_box hc hA
  | build t parts => exact snd_build hc hA
  | buildSlice t len parts => exact snd_bslice hc hA
  | load t x => exact snd_load hc hA
  | store t x y => exact snd_store hc hA
  | nilCheck x => exact snd_nilc hc hA
  | binOp op t x y yt => exact snd_bin hc hA
  | unOp op t x => exact snd_un hc hA
  | convert s d x => exact snd_conv hc hA
  | makeFunc g first caps => exact snd_mkfn hc hA
  | makeSlice t l c => exact snd_mkslice hc hA
  | makeMap t r =>
    cases r with
    | none => simp only [compOp, Option.some.injEq] at hc; subst hc; exact (show False from hA).elim
    | some r => simp [compOp] at hc
  | lookup t x i ok =>
    simp only [compOp] at hc
    repeat' split at hc
    all_goals first
      | (cases hc; done)
      | (simp only [Option.some.injEq] at hc; subst hc; exact (show False from hA).elim)
  | mapUpdate t m k x =>
    simp only [compOp] at hc
    repeat' split at hc
    all_goals first
      | (cases hc; done)
      | (simp only [Option.some.injEq] at hc; subst hc; exact (show False from hA).elim)
  | entry x => simp only [compOp, Option.some.injEq] at hc; subst hc; exact (show False from hA).elim
  | fieldAddr t x k => exact snd_faddr hc hA
  | field t x k => exact snd_field hc hA
  | indexAddr t x i => exact snd_iaddr hc hA
  | index t x i => exact snd_sindex hc hA
  | extract x k => exact snd_ext hc hA
  | slice t x lo hi mx =>
    simp only [compOp] at hc
    split at hc
    · rename_i e hu
      split at hc
      case h_2 => cases hc
      rename_i ti hi'
      split at hc
      case isFalse => cases hc
      rename_i hcond
      simp only [Option.some.injEq] at hc; subst hc
      exact snd_slice hu hi' hcond.1 hcond.2 hA
    · rename_i hu
      split at hc
      case isFalse => cases hc
      rename_i hmx
      simp only [Option.some.injEq] at hc; subst hc
      have : mx = none := by simpa using hmx
      subst this
      exact snd_sslice hu hA
    · cases hc
  | call c =>
    simp only [compOp] at hc
    split at hc
    · simp only [Option.some.injEq] at hc; subst hc; exact hA.elim
    · rename_i hb
      split at hc
      case h_2 => cases hc
      rename_i x t ha ht
      split at hc
      · rename_i hu; simp only [Option.some.injEq] at hc; subst hc; exact snd_len hb ha ht (.inl ⟨rfl, hu⟩) hA
      · rename_i e hu; simp only [Option.some.injEq] at hc; subst hc; exact snd_len hb ha ht (.inr ⟨rfl, e, hu⟩) hA
      · cases hc
    · rename_i hb
      split at hc
      case h_2 => cases hc
      rename_i x y t t' ha ht
      split at hc
      case isFalse =>
        split at hc
        case h_2 => cases hc
        rename_i e kn hu hu'
        split at hc
        case h_2 => cases hc
        rename_i ti n z hi hz
        split at hc
        case isFalse => cases hc
        rename_i hby
        simp only [Option.some.injEq] at hc; subst hc
        exact snd_appz hb ha ht hu hu' hi hz hby hA
      rename_i htt; subst htt
      split at hc
      case h_2 => cases hc
      rename_i e hu
      split at hc
      case h_2 => cases hc
      rename_i ti n z hi hz
      split at hc
      case isFalse => cases hc
      rename_i hby
      simp only [Option.some.injEq] at hc; subst hc
      exact snd_app hb ha ht hu hi hz hby hA
    · rename_i hb
      split at hc
      case h_2 => cases hc
      rename_i x t ha ht
      split at hc
      case h_2 => cases hc
      rename_i e hu
      simp only [Option.some.injEq] at hc; subst hc
      exact snd_capn hb ha ht hu hA
    · rename_i hb
      split at hc
      case h_2 => cases hc
      rename_i x y ha
      simp only [Option.some.injEq] at hc; subst hc
      exact snd_minmax (mn := true) (by simpa using hb) ha hA
    · rename_i hb
      split at hc
      case h_2 => cases hc
      rename_i x y ha
      simp only [Option.some.injEq] at hc; subst hc
      exact snd_minmax (mn := false) (by simpa using hb) ha hA
    · cases hc
  | range t x =>
    simp only [compOp] at hc
    repeat' split at hc
    all_goals first
      | (cases hc; done)
      | (simp only [Option.some.injEq] at hc; subst hc; exact (show False from hA).elim)
  | next x b => cases b with
    | true => simp [compOp] at hc
    | false => simp only [compOp, Option.some.injEq] at hc; subst hc; exact hA.elim
  | panic x => simp only [compOp, Option.some.injEq] at hc; subst hc; exact hA.elim
  | makeInterface _ _ => simp only [compOp, Option.some.injEq] at hc; subst hc; exact hA.elim
  | _ => simp [compOp] at hc
end
end Go.Ab
/- Calls by contract; a region's operations one after the other. -/
set_option linter.unusedVariables false
set_option linter.unusedSimpArgs false
namespace Go.Ab
open Go.RowKit

/-! ### contracts of functions that leave all memory alone -/
/-- the function can be entered -/
def Enters (P : Program) (f : FuncId) : Prop := ∃ fn, P.funcs[f]? = some fn ∧ fn.body.isSome = true ∧ (fn.name == "runtime.NumGoroutine") = false
/-- called with these values the function returns this one; memory that was there is as it was -/
def PCall (P : Program) (f : FuncId) (args : List PV) (r : PV) : Prop :=
  Enters P f ∧ ∀ I w us, ImmOk I w → RPL I args us → Calls P f us.toArray w fun e w' =>
    ∃ u J, e = .returned u ∧ I.le J ∧ (∀ a v, J a = some v → a.block < w.heap.size → I a = some v) ∧ ImmOk J w' ∧ RP J r u ∧ Below w.heap.size w w'

/-! ### what a callee sees -/
mutual
inductive Vw (h : HF) (B : List Nat) : V → PV → Prop
  | pv (p : PV) : Vw h B (.pv p) p
  | weak (p q : PV) : (∀ I u, RP I p u → RP I q u) → Vw h B (.pv p) q
  | ptr (b i off : Nat) (k : Blk) (cs : List V) (ps : List PV) : b ∈ B → h b = some k → k.xs[i]? = some cs → VwL h B (cs.drop off) ps → Vw h B (.ptr b i off) (.rptr ps)
  | row (b n : Nat) (fl : Bool) (k : Blk) (ps : List PV) : b ∈ B → h b = some k → n ≤ k.xs.length → VwE h B k.sz (k.xs.take n) ps → Vw h B (.row b n fl) (.list k.sz ps)
  | agg (cs : List V) (ps : List PV) : VwL h B cs ps → Vw h B (.agg cs) (.agg ps)
  | tup (cs : List V) (ps : List PV) : VwL h B cs ps → Vw h B (.tup cs) (.tup ps)
  | fn (f : FuncId) (cs : List V) (ps : List PV) : VwL h B cs ps → Vw h B (.fn f cs) (.fn f ps)
inductive VwL (h : HF) (B : List Nat) : List V → List PV → Prop
  | nil : VwL h B [] []
  | cons (c : V) (cs : List V) (p : PV) (ps : List PV) : Vw h B c p → VwL h B cs ps → VwL h B (c :: cs) (p :: ps)
inductive VwE (h : HF) (B : List Nat) : Nat → List (List V) → List PV → Prop
  | nil (sz : Nat) : VwE h B sz [] []
  | cons (sz : Nat) (c : List V) (cs : List (List V)) (p : PV) (ps : List PV) : p.cells.length = sz → VwL h B c p.cells → VwE h B sz cs ps → VwE h B sz (c :: cs) (p :: ps)
end
theorem VwL_pv {h : HF} {B : List Nat} : ∀ (ps : List PV), VwL h B (ps.map .pv) ps
  | [] => .nil
  | p :: ps => .cons _ _ _ _ (.pv p) (VwL_pv ps)
/-- a row of values that lie in no memory -/
theorem VwE_pv {h : HF} {B : List Nat} {sz : Nat} : ∀ (ps : List PV), (∀ p ∈ ps, p.cells.length = sz) → VwE h B sz (ps.map PV.vcells) ps
  | [], _ => .nil sz
  | p :: ps, hs => .cons sz _ _ _ _ (hs p (by simp)) (VwL_pv _) (VwE_pv ps fun q hq => hs q (by simp [hq]))

open Classical in
/-- what never changes while the callee runs -/
noncomputable def lend (G : Gh) (h : HF) (B : List Nat) (w : World) : Imm := fun a =>
  if (G.I a).isSome then G.I a
  else if ∃ b k, b ∈ B ∧ h b = some k ∧ a.block = G.φ b ∧ a.spot = none ∧ a.off < k.xs.length * k.sz then w.cell? a else none

section
variable {S : Nat → Prop} {G : Gh} {h : HF} {w : World} {B : List Nat}
theorem lend_le : G.I.le (lend G h B w) := fun a v e => by simp [lend, e]
theorem lend_ok (r : Rel S G h w) : ImmOk (lend G h B w) w := by
  refine ⟨fun a v e => ?_, r.imm.laid.mono lend_le⟩
  unfold lend at e
  split at e
  · exact r.imm.ok a v e
  · split at e
    · exact e
    · cases e
theorem lend_block {b : Nat} {k : Blk} {i : Nat} (r : Rel S G h w) (hb : b ∈ B) (hk : h b = some k) (hi : i < k.xs.length * k.sz) : lend G h B w ⟨G.φ b, i, none⟩ = w.cell? ⟨G.φ b, i, none⟩ := by
  unfold lend
  split
  · rename_i h1
    obtain ⟨v, e⟩ := Option.isSome_iff_exists.1 h1
    rw [e, r.imm.ok _ _ e]
  · rw [if_pos ⟨b, k, hb, hk, rfl, rfl, hi⟩]
theorem lend_spec {a : Addr} {v : Value} (e : lend G h B w a = some v) : G.I a = some v ∨ ∃ b k, b ∈ B ∧ h b = some k ∧ a.block = G.φ b := by
  unfold lend at e
  split at e
  · exact .inl e
  · split at e
    · rename_i h2
      obtain ⟨b, k, h3, h4, h5, _⟩ := h2
      exact .inr ⟨b, k, h3, h4, h5⟩
    · cases e

theorem lend_cell (r : Rel S G h w) {b : Nat} {k : Blk} (hb : b ∈ B) (hk : h b = some k) {i j : Nat} {cs : List V} {c : V} (hi : k.xs[i]? = some cs) (hj : cs[j]? = some c) :
    ∃ u, lend G h B w ⟨G.φ b, i * G.σ b + j, none⟩ = some u ∧ u.oneCell' = true ∧ R G c u := by
  obtain ⟨arr, e, rr⟩ := r.blk b k hk
  obtain ⟨u, e1, e2, e3⟩ := rr.cell i j cs c hi hj
  have hlen := rr.len i cs hi
  have hil : i < k.xs.length := (List.getElem?_eq_some_iff.1 hi).1
  have hjl : j < k.sz := by rw [← hlen]; exact (List.getElem?_eq_some_iff.1 hj).1
  refine ⟨u, ?_, e2, e3⟩
  rw [← rr.sz, lend_block r hb hk, cell_arr e, e1]
  have := Nat.mul_le_mul_right k.sz (show i + 1 ≤ k.xs.length by omega)
  rw [Nat.add_mul] at this; omega

mutual
theorem Vw_R (r : Rel S G h w) : ∀ {v : V} {p : PV} {u : Value}, Vw h B v p → R G v u → RP (lend G h B w) p u
  | _, _, u, .pv p, hr => by simp only [R] at hr; exact RP_mono lend_le _ _ hr
  | _, _, u, .weak p q hw, hr => by simp only [R] at hr; exact hw _ _ (RP_mono lend_le _ _ hr)
  | _, _, u, .ptr b i off k cs ps hb hk hcs hl, hr => by
    simp only [R] at hr
    simp only [RP]
    refine ⟨_, hr, VwL_RC r hl fun j d hd => ?_⟩
    rw [List.getElem?_drop] at hd
    obtain ⟨u, e1, e2⟩ := lend_cell r hb hk hcs hd
    refine ⟨u, ?_, e2⟩
    rw [add_plain', Nat.zero_add, Nat.add_assoc]; exact e1
  | _, _, u, .row b n fl k ps hb hk hn hl, hr => by
    simp only [R] at hr
    obtain ⟨cap, hr, hc, hbig, _⟩ := hr
    obtain ⟨arr, e, rr⟩ := r.blk b k hk
    have hlen : ps.length = n := by rw [← VwE_length hl]; simp [hn]
    simp only [RP]
    refine ⟨_, _, _, hr, hlen.symm, hc, hbig, .inr ⟨_, rfl, VwE_R r hl fun i cs hi j d hd => ?_⟩⟩
    have hi' : k.xs[i]? = some cs := by
      rw [List.getElem?_take] at hi
      split at hi
      · exact hi
      · cases hi
    obtain ⟨u, e1, e2⟩ := lend_cell r hb hk hi' hd
    refine ⟨u, ?_, e2⟩
    rw [add_plain', Nat.zero_add, Nat.zero_add, rr.sz]; exact e1
  | _, _, u, .agg cs ps hl, hr => by
    simp only [R] at hr
    obtain ⟨us, rfl, h1, hr⟩ := hr
    simp only [RP]
    exact ⟨us, rfl, h1, VwL_R r hl hr⟩
  | _, _, u, .tup cs ps hl, hr => by
    simp only [R] at hr
    obtain ⟨us, rfl, hr⟩ := hr
    simp only [RP]
    exact ⟨us, rfl, VwL_R r hl hr⟩
  | _, _, u, .fn f cs ps hl, hr => by
    simp only [R] at hr
    obtain ⟨us, rfl, hr⟩ := hr
    simp only [RP]
    exact ⟨us, rfl, VwL_R r hl hr⟩
theorem VwL_R (r : Rel S G h w) : ∀ {vs : List V} {ps : List PV} {us : List Value}, VwL h B vs ps → RL G vs us → RPL (lend G h B w) ps us
  | _, _, us, .nil, hr => by simpa [RL, RPL] using hr
  | _, _, us, .cons c cs p ps h1 h2, hr => by
    simp only [RL] at hr
    obtain ⟨u, us', rfl, r1, r2⟩ := hr
    simp only [RPL]
    exact ⟨u, us', rfl, Vw_R r h1 r1, VwL_R r h2 r2⟩
theorem VwL_RC (r : Rel S G h w) {ad : Addr} {kk : Nat} : ∀ {ds : List V} {qs : List PV}, VwL h B ds qs → (∀ (j : Nat) d, ds[j]? = some d → ∃ u, lend G h B w (ad.add (kk + j)) = some u ∧ u.oneCell' = true ∧ R G d u) → RPC (lend G h B w) ad kk qs
  | _, _, .nil, _ => by simp [RPC]
  | _, _, .cons c cs p ps h1 h2, hc => by
    simp only [RPC]
    obtain ⟨u, e1, e2, e3⟩ := hc 0 c (by simp)
    refine ⟨⟨u, by simpa using e1, e2, Vw_R r h1 e3⟩, VwL_RC r h2 fun j d hd => ?_⟩
    have := hc (j + 1) d (by simpa using hd)
    rwa [show kk + (j + 1) = kk + 1 + j by omega] at this
theorem VwE_R (r : Rel S G h w) {ad : Addr} {kk : Nat} : ∀ {sz : Nat} {ds : List (List V)} {qs : List PV}, VwE h B sz ds qs → (∀ (i : Nat) cs, ds[i]? = some cs → ∀ (j : Nat) d, cs[j]? = some d → ∃ u, lend G h B w (ad.add (kk + i * sz + j)) = some u ∧ u.oneCell' = true ∧ R G d u) → RPE (lend G h B w) ad kk sz qs
  | _, _, _, .nil sz, _ => by simp [RPE]
  | _, _, _, .cons sz c cs p ps hs h1 h2, hc => by
    rw [RPE_cons]
    refine ⟨hs, VwL_RC r h1 fun j d hd => ?_, VwE_R r h2 fun i cs' hi j d hd => ?_⟩
    · have := hc 0 c (by simp) j d hd
      simpa using this
    · have := hc (i + 1) cs' (by simpa using hi) j d hd
      rwa [show kk + (i + 1) * sz + j = kk + sz + i * sz + j by rw [Nat.add_mul]; omega] at this
theorem VwE_length : ∀ {sz : Nat} {ds : List (List V)} {qs : List PV}, VwE h B sz ds qs → ds.length = qs.length
  | _, _, _, .nil sz => rfl
  | _, _, _, .cons sz c cs p ps hs h1 h2 => by simp [VwE_length h2]
end
end
end Go.Ab
/- A call by its contract; one operation in the machine's walk. -/
set_option linter.unusedVariables false
set_option linter.unusedSimpArgs false
namespace Go.Ab
open Go.RowKit

mutual
/-- no memory stands behind it -/
def PV.scal : PV → Bool
  | .lit _ => true
  | .agg ps => PV.scalL ps
  | .tup ps => PV.scalL ps
  | .fn _ ps => PV.scalL ps
  | .rptr _ => false
  | .list _ _ => false
def PV.scalL : List PV → Bool
  | [] => true
  | p :: ps => PV.scal p && PV.scalL ps
end
mutual
theorem RP_scal {I J : Imm} : ∀ (p : PV) (u : Value), p.scal = true → RP J p u → RP I p u
  | .lit x, u, _, r => by simpa only [RP] using r
  | .agg ps, u, hs, r => by
    simp only [RP, PV.scal] at r hs ⊢
    obtain ⟨us, e, h1, r⟩ := r
    exact ⟨us, e, h1, RPL_scal ps _ hs r⟩
  | .tup ps, u, hs, r => by
    simp only [RP, PV.scal] at r hs ⊢
    obtain ⟨us, e, r⟩ := r
    exact ⟨us, e, RPL_scal ps _ hs r⟩
  | .fn f ps, u, hs, r => by
    simp only [RP, PV.scal] at r hs ⊢
    obtain ⟨us, e, r⟩ := r
    exact ⟨us, e, RPL_scal ps _ hs r⟩
  | .rptr _, _, hs, _ => by simp [PV.scal] at hs
  | .list _ _, _, hs, _ => by simp [PV.scal] at hs
theorem RPL_scal {I J : Imm} : ∀ (ps : List PV) (us : List Value), PV.scalL ps = true → RPL J ps us → RPL I ps us
  | [], us, _, r => by simpa only [RPL] using r
  | p :: ps, us, hs, r => by
    simp only [RPL, PV.scalL, Bool.and_eq_true] at r hs ⊢
    obtain ⟨u, us', e, r1, r2⟩ := r
    exact ⟨u, us', e, RP_scal p u hs.1 r1, RPL_scal ps us' hs.2 r2⟩
end

mutual
theorem Vw_congr {h h2 : HF} {B : List Nat} (hh : ∀ b ∈ B, h2 b = h b) : ∀ {v : V} {p : PV}, Vw h B v p → Vw h2 B v p
  | _, _, .pv p => .pv p
  | _, _, .weak p q hw => .weak p q hw
  | _, _, .ptr b i off k cs ps hb hk hcs hl => .ptr b i off k cs ps hb ((hh b hb).trans hk) hcs (VwL_congr hh hl)
  | _, _, .row b n fl k ps hb hk hn hl => .row b n fl k ps hb ((hh b hb).trans hk) hn (VwE_congr hh hl)
  | _, _, .agg cs ps hl => .agg cs ps (VwL_congr hh hl)
  | _, _, .tup cs ps hl => .tup cs ps (VwL_congr hh hl)
  | _, _, .fn f cs ps hl => .fn f cs ps (VwL_congr hh hl)
theorem VwL_congr {h h2 : HF} {B : List Nat} (hh : ∀ b ∈ B, h2 b = h b) : ∀ {v : List V} {p : List PV}, VwL h B v p → VwL h2 B v p
  | _, _, .nil => .nil
  | _, _, .cons c cs p ps h1 h2 => .cons c cs p ps (Vw_congr hh h1) (VwL_congr hh h2)
theorem VwE_congr {h h2 : HF} {B : List Nat} (hh : ∀ b ∈ B, h2 b = h b) : ∀ {sz : Nat} {v : List (List V)} {p : List PV}, VwE h B sz v p → VwE h2 B sz v p
  | _, _, _, .nil sz => .nil sz
  | _, _, _, .cons sz c cs p ps hs h1 h2 => .cons sz c cs p ps hs (VwL_congr hh h1) (VwE_congr hh h2)
end

/-- the blocks of B are written no more -/
def frz (h : HF) (B : List Nat) : List (Nat × Option Blk) := B.map fun b => (b, (h b).map fun k => { k with ro := true })
theorem updD_frz (h0 : HF) : ∀ (B : List Nat) (h : HF) (b : Nat), (∀ b, b ∉ B → True) → updD h (frz h0 B) b = if b ∈ B then (h0 b).map fun k => { k with ro := true } else h b
  | [], h, b, _ => by simp [frz, updD]
  | c :: B, h, b, _ => by
    have ih := updD_frz h0 B (upd h c ((h0 c).map fun k => { k with ro := true })) b (fun _ _ => trivial)
    simp only [frz, List.map_cons, updD] at ih ⊢
    rw [ih]
    by_cases hb : b ∈ B
    · simp [hb]
    · by_cases hc : b = c
      · subst hc; simp [hb, upd]
      · simp [hb, hc, upd]

/-- a call: what it hands back, the blocks it looks into, the blocks that turn -/
def CallOk (P : Program) (nb : Nat) (fv : V) (vs : List V) (h : HF) (v : V) (rd : List Nat) (δ : List (Nat × Option Blk)) : Prop :=
  ∀ S G h2 w u us, Rel S G h2 w → (∀ b ∈ rd, h2 b = h b) → ¬ S nb → R G fv u → RL G vs us → fv.bd S → V.bdL S vs →
    ∃ f caps, u = .func (.func f) #[] caps ∧ Enters P f ∧ Calls P f (us.toArray ++ caps) w fun e w' =>
      ∃ u' G', e = .returned u' ∧ Gh.le S G G' ∧ Rel (SD S δ) G' (updD h2 δ) w' ∧ Tr G h2 w G' (updD h2 δ) w' ∧ R G' v u' ∧ v.bd (SD S δ)
def ACall (P : Program) (nb : Nat) (fv : V) (vs : List V) (h : HF) (K : Kont) : Prop := ∃ v rd δ, K v rd δ ∧ (∀ b k, (b, k) ∈ δ → b = nb ∨ b ∈ rd) ∧ CallOk P nb fv vs h v rd δ

theorem RPL_append {I : Imm} : ∀ {ps qs : List PV} {us vs : List Value}, RPL I ps us → RPL I qs vs → RPL I (ps ++ qs) (us ++ vs)
  | [], qs, us, vs, h1, h2 => by simp only [RPL] at h1; subst h1; simpa using h2
  | p :: ps, qs, us, vs, h1, h2 => by
    simp only [RPL] at h1
    obtain ⟨u, us', rfl, r1, r2⟩ := h1
    simp only [List.cons_append, RPL]
    exact ⟨u, us' ++ vs, rfl, r1, RPL_append r2 h2⟩

theorem Rel.keep {S G h w w'} (r : Rel S G h w) (hb : Below w.heap.size w w') : Rel S G h w' :=
  ⟨⟨fun a v e => by rw [World.cell?_of_block (w := w) (hb.block _ (r.imm_lt e))]; exact r.imm.ok a v e, r.imm.laid⟩,
   fun b k e => by obtain ⟨arr, e1, e2⟩ := r.blk b k e; exact ⟨arr, by rw [hb.block _ (r.lt e)]; exact e1, e2⟩, r.inj, r.sep, r.live, r.bd⟩

theorem CallOk.pure {P : Program} {nb : Nat} {fv : V} {vs : List V} {h : HF} {f : FuncId} {args caps : List PV} {r : PV} (B : List Nat) (hf : Vw h B fv (.fn f caps)) (hv : VwL h B vs args) (hc : PCall P f (args ++ caps) r) :
    CallOk P nb fv vs h (.pv r) B (if r.scal then [] else frz h B) := by
  intro S G h2 w u us rel hrd _ hru hrs hbf hbs
  have hf' := Vw_congr hrd hf
  have hv' := VwL_congr hrd hv
  have hu := Vw_R rel hf' hru
  have hus := VwL_R rel hv' hrs
  simp only [RP] at hu
  obtain ⟨cs, rfl, hcs⟩ := hu
  refine ⟨f, cs, rfl, hc.1, ?_⟩
  have := hc.2 (lend G h2 B w) w (us ++ cs.toList) (lend_ok rel) (RPL_append hus hcs)
  rw [show us.toArray ++ cs = (us ++ cs.toList).toArray by simp]
  refine this.mono fun e w' ⟨u', J, he, hIJ, hnew, hJ, hr, hbel⟩ => ?_
  have hold : ∀ k, k < w.heap.size → w'.heap[k]? = w.heap[k]? := hbel.block
  by_cases hs : r.scal = true
  · rw [if_pos hs]
    have rel' := rel.keep hbel
    refine ⟨u', G, he, Gh.le.refl S G, rel'.monoS fun b hb => .inl hb, ⟨hbel.os, hbel.tape, hbel.output, hbel.size, Imm.le.refl _, fun k hk _ => hold k hk, fun b blk e hro _ => ⟨b, blk, e, hro, rfl⟩, fun b blk e _ => ⟨b, blk, e, rfl⟩, fun a v e _ => .inl e⟩, ?_, by simp [V.bd]⟩
    simp only [R]; exact RP_scal r u' hs hr
  · rw [if_neg hs]
    -- the blocks that were lent are written no more
    have hupd : ∀ b, updD h2 (frz h B) b = if b ∈ B then (h2 b).map fun k => { k with ro := true } else h2 b := fun b => by
      rw [updD_frz h B h2 b (fun _ _ => trivial)]
      by_cases hb : b ∈ B
      · rw [if_pos hb, if_pos hb, hrd b hb]
      · rw [if_neg hb, if_neg hb]
    have get : ∀ b k, updD h2 (frz h B) b = some k → ∃ k0, h2 b = some k0 ∧ ((b ∈ B ∧ k = { k0 with ro := true }) ∨ (b ∉ B ∧ k = k0)) := fun b k e => by
      rw [hupd] at e
      split at e
      · rename_i hb
        obtain ⟨k0, e1, e2⟩ := Option.map_eq_some_iff.1 e
        exact ⟨k0, e1, .inl ⟨hb, e2.symm⟩⟩
      · rename_i hb
        exact ⟨k, e, .inr ⟨hb, rfl⟩⟩
    let G' : Gh := { G with I := J }
    have hle : Gh.le S G G' := ⟨fun _ _ => rfl, fun _ _ => rfl, fun _ _ => rfl, lend_le.trans hIJ⟩
    have hS : ∀ b, S b → SD S (frz h B) b := fun b hb => .inl hb
    refine ⟨u', G', he, hle, ⟨hJ, fun b k e => ?_, fun b b' k k' e e' eφ => ?_, fun b k e hro a v ea => ?_, fun b k e => ?_, fun b k e => ?_⟩,
      ⟨hbel.os, hbel.tape, hbel.output, hbel.size, lend_le.trans hIJ, fun k hk _ => hold k hk, fun b k e hro _ => ?_, fun b k e _ => ?_, fun a v e hlt => ?_⟩, by simp only [R]; exact hr, by simp [V.bd]⟩
    · obtain ⟨k0, e0, hk⟩ := get b k e
      obtain ⟨arr, e1, rr⟩ := rel.blk b k0 e0
      have e1' : w'.heap[G'.φ b]? = some (.cells arr k0.ty (0, 0)) := by rw [hold _ (rel.lt e0)]; exact e1
      have rr' := rr.mono hle (rel.live b k0 e0) (rel.bd b k0 e0)
      rcases hk with ⟨hb, rfl⟩ | ⟨hb, rfl⟩
      · refine ⟨arr, e1', rr'.sz, rr'.size, rr'.fits, rr'.len, rr'.cell, fun _ i hi => ?_, rr'.tag⟩
        have h1 : lend G h2 B w ⟨G.φ b, i, none⟩ = arr[i]? := by rw [lend_block rel hb e0 hi, cell_arr e1]
        have hlt : i < arr.size := Nat.lt_of_lt_of_le hi rr.fits
        rw [Array.getElem?_eq_getElem hlt] at h1 ⊢
        exact hIJ _ _ h1
      · exact ⟨arr, e1', rr'⟩
    · obtain ⟨k0, e0, _⟩ := get b k e
      obtain ⟨k0', e0', _⟩ := get b' k' e'
      exact rel.inj b b' k0 k0' e0 e0' eφ
    · obtain ⟨k0, e0, hk⟩ := get b k e
      rcases hk with ⟨hb, rfl⟩ | ⟨hb, rfl⟩
      · simp at hro
      · by_cases hlt : a.block < w.heap.size
        · rcases lend_spec (hnew a v ea hlt) with h1 | ⟨b', k', hb', hk', h1⟩
          · exact rel.sep b k e0 hro a v h1
          · rw [h1]
            intro hφ
            exact hb (rel.inj b' b k' k hk' e0 hφ ▸ hb')
        · have := rel.lt e0
          show a.block ≠ G.φ b
          omega
    · obtain ⟨k0, e0, _⟩ := get b k e
      exact hS b (rel.live b k0 e0)
    · obtain ⟨k0, e0, hk⟩ := get b k e
      have := rel.bd b k0 e0
      rcases hk with ⟨_, rfl⟩ | ⟨_, rfl⟩ <;> exact fun cs hcs => V.bdL_mono hS cs (this cs hcs)
    · obtain ⟨k0, e0, hk⟩ := get b k e
      rcases hk with ⟨_, rfl⟩ | ⟨_, rfl⟩
      · simp at hro
      · exact ⟨b, k, e0, hro, rfl⟩
    · obtain ⟨k0, e0, _⟩ := get b k e
      exact ⟨b, k0, e0, rfl⟩
    · rcases lend_spec (hnew a v e hlt) with h1 | ⟨b', k', _, hk', h1⟩
      · exact .inl h1
      · exact .inr ⟨b', k', hk', h1.symm⟩

theorem ACall.pure {P : Program} {nb : Nat} {fv : V} {vs : List V} {h : HF} {K : Kont} {f : FuncId} {args caps : List PV} {r : PV} (B : List Nat) (hf : Vw h B fv (.fn f caps)) (hv : VwL h B vs args) (hc : PCall P f (args ++ caps) r)
    (hK : K (.pv r) B (if r.scal then [] else frz h B)) : ACall P nb fv vs h K :=
  ⟨_, _, _, hK, fun b k hb => by
    right
    split at hb
    · cases hb
    · obtain ⟨c, hc, he⟩ := List.mem_map.1 hb
      simp only [Prod.mk.injEq] at he
      rw [← he.1]; exact hc, CallOk.pure B hf hv hc⟩

/-- an operation, calls too -/
def AX (P : Program) (o : AO) (nb : Nat) (f : FV) (h : HF) (K : Kont) : Prop :=
  match o with
  | .call fx args => ACall P nb (ev f fx) (args.map (ev f)) h K
  | o => AS o nb f h K

/-- one operation in the walk, from every state that agrees with this one where it looks -/
def Stp (P : Program) (co : Oper) (nb : Nat) (f : FV) (h : HF) (v : V) (rd : List Nat) (δ : List (Nat × Option Blk)) : Prop :=
  ∀ N S G f2 h2 a w, St N S G f2 h2 a w → (∀ x ∈ co.op.operands.toList, ev f2 x = ev f x) → (∀ b ∈ rd, h2 b = h b) → ¬ S nb →
    ∀ (Kn : Act → World → Prop) (Q : Exit → Act → World → Prop),
      (∀ u w' G', Gh.le S G G' → Rel (SD S δ) G' (updD h2 δ) w' → Tr G h2 w G' (updD h2 δ) w' → R G' v u → v.bd (SD S δ) → Kn (a.put co.dst u) w') → co.wp P a w Kn Q

theorem AX_sound {P : Program} {co : Oper} {o : AO} {nb : Nat} {f : FV} {h : HF} {K : Kont} (hc : compOp P co.op = some o) (hA : AX P o nb f h K) :
    ∃ v rd δ, K v rd δ ∧ (∀ b k, (b, k) ∈ δ → b = nb ∨ b ∈ rd) ∧ Stp P co nb f h v rd δ := by
  have fin : ∀ (hS : Snd P co.op nb f h K), ∃ v rd δ, K v rd δ ∧ (∀ b k, (b, k) ∈ δ → b = nb ∨ b ∈ rd) ∧ Stp P co nb f h v rd δ := fun ⟨v, rd, δ, hK, hδ, hs⟩ =>
    ⟨v, rd, δ, hK, hδ, fun N S G f2 h2 a w st hx hr hn Kn Q hk => by
      obtain ⟨u, w', G', hres, h1, h3, h4, h5, h6⟩ := hs N S G f2 h2 a w st hx hr hn co rfl
      unfold Oper.wp
      rcases hres with hres | ⟨hres, rfl⟩
      · rw [hres]; exact hk u w' G' h1 h3 h4 h5 h6
      · rw [hres]; exact hk undef w' G' h1 h3 h4 h5 h6⟩
  cases o with
  | call fx args =>
    simp only [AX] at hA
    obtain ⟨v, rd, δ, hK, hδ, hcall⟩ := hA
    refine ⟨v, rd, δ, hK, hδ, fun N S G f2 h2 a w st hx hr hn Kn Q hk => ?_⟩
    -- the machine's operation
    cases hop : co.op with
    | call c =>
      rw [hop] at hc
      obtain ⟨callee, cargs, tys⟩ := c
      have hcal : callee = .value fx ∧ cargs.toList = args := by
        cases callee with
        | value g => simp only [compOp, Option.some.injEq, AO.call.injEq] at hc; exact ⟨by rw [hc.1], hc.2⟩
        | invoke r m => simp [compOp] at hc
        | builtin b =>
          simp only [compOp] at hc
          repeat' split at hc
          all_goals first | (cases hc; done) | (simp at hc; done) | (simp_all; done)
      obtain ⟨rfl, rfl⟩ := hcal
      have ex : ev f2 fx = ev f fx := hx fx (by simp [hop, Op.operands, Call.operands])
      have hfx := st.ev fx; rw [ex] at hfx
      have hbx := st.evbd fx; rw [ex] at hbx
      obtain ⟨hargs, hbargs⟩ := RL_map_ev (f := f) st cargs.toList fun x hx' => hx x (by simp [hop, Op.operands, Call.operands]; right; simpa using hx')
      obtain ⟨g, caps, hg, ⟨fn, hfn, hbody, hname⟩, hcalls⟩ := hcall S G h2 w _ _ st.rel hr hn hfx hargs hbx hbargs
      unfold Oper.wp
      have hrun : (execOp a.eval co).run P w = .ok (.enter g (cargs.map a.eval ++ caps)) w := by
        obtain ⟨body, hb⟩ := Option.isSome_iff_exists.1 hbody
        have hname' : ¬ fn.name = "runtime.NumGoroutine" := by simpa using hname
        simp [execOp, hop, resolve, Deferred.ofValue, hg, invoke, callFunc, hfn, hb, hname']
      rw [hrun]
      simp only [Oper.upon]
      have : (List.map a.eval cargs.toList).toArray ++ caps = cargs.map a.eval ++ caps := by rw [← Array.toList_map]
      rw [this] at hcalls
      refine hcalls.mono fun e w' ⟨u', G', he, h1, h3, h4, h5, h6⟩ => ?_
      subst he
      exact hk u' w' G' h1 h3 h4 h5 h6
    | _ =>
      rw [hop] at hc
      (try simp only [compOp] at hc)
      repeat' split at hc
      all_goals first | (cases hc; done) | (simp at hc; done) | (simp_all; done)
  | _ => exact fin (AS_sound hc hA)
theorem updD_append (δ ε : List (Nat × Option Blk)) : ∀ (h : HF), updD h (δ ++ ε) = updD (updD h δ) ε := by
  induction δ with
  | nil => intro h; rfl
  | cons x δ ih => intro h; obtain ⟨b, k⟩ := x; exact ih _
theorem updD_at {h h2 : HF} {b : Nat} : ∀ (δ : List (Nat × Option Blk)) (h h2 : HF), h2 b = h b → updD h2 δ b = updD h δ b
  | [], h, h2, e => e
  | (c, k) :: δ, h, h2, e => by
    refine updD_at (h := h) (h2 := h2) δ _ _ ?_
    unfold upd
    split
    · rfl
    · exact e
/-- blocks that are written no more, their contents known for good -/
theorem Rel.freeze {S : Nat → Prop} {G : Gh} {h2 : HF} {w : World} (rel : Rel S G h2 w) (B : List Nat) :
    Gh.le S G { G with I := lend G h2 B w } ∧ Rel S { G with I := lend G h2 B w } (updD h2 (frz h2 B)) w ∧ Tr G h2 w { G with I := lend G h2 B w } (updD h2 (frz h2 B)) w := by
  have hupd : ∀ b, updD h2 (frz h2 B) b = if b ∈ B then (h2 b).map fun k => { k with ro := true } else h2 b := fun b => updD_frz h2 B h2 b (fun _ _ => trivial)
  have get : ∀ b k, updD h2 (frz h2 B) b = some k → ∃ k0, h2 b = some k0 ∧ ((b ∈ B ∧ k = { k0 with ro := true }) ∨ (b ∉ B ∧ k = k0)) := fun b k e => by
    rw [hupd] at e
    split at e
    · rename_i hb
      obtain ⟨k0, e1, e2⟩ := Option.map_eq_some_iff.1 e
      exact ⟨k0, e1, .inl ⟨hb, e2.symm⟩⟩
    · rename_i hb
      exact ⟨k, e, .inr ⟨hb, rfl⟩⟩
  have hle : Gh.le S G { G with I := lend G h2 B w } := ⟨fun _ _ => rfl, fun _ _ => rfl, fun _ _ => rfl, lend_le⟩
  refine ⟨hle, ⟨lend_ok rel, fun b k e => ?_, fun b b' k k' e e' eφ => ?_, fun b k e hro a v ea => ?_, fun b k e => ?_, fun b k e => ?_⟩,
    ⟨rfl, rfl, rfl, Nat.le_refl _, lend_le, fun _ _ _ => rfl, fun b k e hro _ => ?_, fun b k e _ => ?_, fun a v e hlt => ?_⟩⟩
  · obtain ⟨k0, e0, hk⟩ := get b k e
    obtain ⟨arr, e1, rr⟩ := rel.blk b k0 e0
    have rr' := rr.mono hle (rel.live b k0 e0) (rel.bd b k0 e0)
    rcases hk with ⟨hb, rfl⟩ | ⟨hb, rfl⟩
    · refine ⟨arr, e1, rr'.sz, rr'.size, rr'.fits, rr'.len, rr'.cell, fun _ i hi => ?_, rr'.tag⟩
      show lend G h2 B w ⟨G.φ b, i, none⟩ = arr[i]?
      rw [lend_block rel hb e0 hi, cell_arr e1]
    · exact ⟨arr, e1, rr'⟩
  · obtain ⟨k0, e0, _⟩ := get b k e
    obtain ⟨k0', e0', _⟩ := get b' k' e'
    exact rel.inj b b' k0 k0' e0 e0' eφ
  · obtain ⟨k0, e0, hk⟩ := get b k e
    rcases hk with ⟨hb, rfl⟩ | ⟨hb, rfl⟩
    · simp at hro
    · rcases lend_spec ea with h1 | ⟨b', k', hb', hk', h1⟩
      · exact rel.sep b k e0 hro a v h1
      · rw [h1]
        intro hφ
        exact hb (rel.inj b' b k' k hk' e0 hφ ▸ hb')
  · obtain ⟨k0, e0, _⟩ := get b k e
    exact rel.live b k0 e0
  · obtain ⟨k0, e0, hk⟩ := get b k e
    have := rel.bd b k0 e0
    rcases hk with ⟨_, rfl⟩ | ⟨_, rfl⟩ <;> exact this
  · obtain ⟨k0, e0, hk⟩ := get b k e
    rcases hk with ⟨_, rfl⟩ | ⟨_, rfl⟩
    · simp at hro
    · exact ⟨b, k, e0, hro, rfl⟩
  · obtain ⟨k0, e0, _⟩ := get b k e
    exact ⟨b, k0, e0, rfl⟩
  · rcases lend_spec e with h1 | ⟨b', k', _, hk', h1⟩
    · exact .inl h1
    · exact .inr ⟨b', k', hk', h1.symm⟩
/-- an operation; what it yields may be taken for a pure tree, the blocks behind it written no more -/
def AXo (P : Program) (o : AO) (nb : Nat) (f : FV) (h : HF) (K : Kont) : Prop :=
  AX P o nb f h K ∨ AX P o nb f h fun v rd δ => ∃ B p, Vw (updD h δ) B v p ∧ K (.pv p) (rd ++ B) (δ ++ frz (updD h δ) B)
theorem AXo_sound {P : Program} {co : Oper} {o : AO} {nb : Nat} {f : FV} {h : HF} {K : Kont} (hc : compOp P co.op = some o) (hA : AXo P o nb f h K) :
    ∃ v rd δ, K v rd δ ∧ (∀ b k, (b, k) ∈ δ → b = nb ∨ b ∈ rd) ∧ Stp P co nb f h v rd δ := by
  rcases hA with hA | hA
  · exact AX_sound hc hA
  obtain ⟨v, rd, δ, ⟨B, p, hv, hK⟩, hδ, hs⟩ := AX_sound hc hA
  refine ⟨_, _, _, hK, fun b k hb => ?_, fun N S G f2 h2 a w st hx hr hn Kn Q hk => ?_⟩
  · rcases List.mem_append.1 hb with hb | hb
    · rcases hδ b k hb with e | e
      · exact .inl e
      · exact .inr (List.mem_append_left _ e)
    · obtain ⟨c, hc, he⟩ := List.mem_map.1 hb
      simp only [Prod.mk.injEq] at he
      rw [← he.1]; exact .inr (List.mem_append_right _ hc)
  · refine hs N S G f2 h2 a w st hx (fun b hb => hr b (List.mem_append_left _ hb)) hn Kn Q fun u w' G' g1 g2 g3 g4 g5 => ?_
    have ag : ∀ b ∈ B, updD h2 δ b = updD h δ b := fun b hb => updD_at (h := h) (h2 := h2) δ h h2 (hr b (List.mem_append_right _ hb))
    have ef : frz (updD h δ) B = frz (updD h2 δ) B := by
      unfold frz
      exact List.map_congr_left fun b hb => by rw [ag b hb]
    obtain ⟨l1, r1, t1⟩ := g2.freeze B
    have hSD : ∀ b, S b → SD S δ b := fun b hb => .inl hb
    refine hk u w' _ (⟨fun b hb => (l1.φ b (hSD b hb)).trans (g1.φ b hb), fun b hb => (l1.κ b (hSD b hb)).trans (g1.κ b hb), fun b hb => (l1.σ b (hSD b hb)).trans (g1.σ b hb), g1.I.trans l1.I⟩) ?_ ?_ ?_ ?_
    · rw [ef, updD_append]
      refine r1.monoS fun b hb => ?_
      rcases hb with hb | ⟨k, hb⟩
      · exact .inl hb
      · exact .inr ⟨k, List.mem_append_left _ hb⟩
    · rw [ef, updD_append]; exact g3.trans t1
    · have := Vw_R g2 (Vw_congr ag hv) g4
      simp only [R]; exact this
    · simp [V.bd]
end Go.Ab
/- Regions in the order of their text, code, a whole function. -/
set_option linter.unusedVariables false
set_option linter.unusedSimpArgs false
namespace Go.Ab
open Go.RowKit

abbrev Fr := List (Nat × V)
def get : Fr → Nat → V
  | [], _ => .junk
  | (d, v) :: fr, t => if d = t then v else get fr t
def put (d : Option Nat) (v : V) (fr : Fr) : Fr :=
  match d with
  | some d => (d, v) :: fr
  | none => fr
abbrev Hp := List (Option Blk)
def hget (H : Hp) : HF := fun b => (H[b]?).join
def setAt (H : Hp) (b : Nat) (k : Option Blk) : Hp := if b < H.length then H.set b k else H ++ List.replicate (b - H.length) none ++ [k]
def updL (H : Hp) : List (Nat × Option Blk) → Hp
  | [] => H
  | (b, k) :: δ => updL (setAt H b k) δ
def lt (H : Hp) : Nat → Prop := fun b => b < H.length
theorem hget_setAt (H : Hp) (b : Nat) (k : Option Blk) : hget (setAt H b k) = upd (hget H) b k := by
  funext x
  unfold hget setAt upd
  by_cases hb : b < H.length
  · rw [if_pos hb, List.getElem?_set]
    by_cases hx : b = x
    · subst hx; simp [hb]
    · rw [if_neg hx, if_neg (fun e => hx e.symm)]
  · rw [if_neg hb]
    by_cases hx : x = b
    · subst hx
      rw [List.getElem?_append_right (by simp; omega)]
      simp [show x - (H.length + (x - H.length)) = 0 by omega]
    · rw [if_neg hx]
      by_cases hlt : x < H.length
      · rw [List.append_assoc, List.getElem?_append_left hlt]
      · show _ = (H[x]?).join
        rw [List.getElem?_eq_none (l := H) (by omega)]
        by_cases hlt2 : x < b
        · rw [List.getElem?_append_left (by simp; omega), List.getElem?_append_right (by omega), List.getElem?_replicate, if_pos (by omega)]; rfl
        · rw [List.getElem?_eq_none (by simp; omega)]
theorem hget_updL : ∀ (δ : List (Nat × Option Blk)) (H : Hp), hget (updL H δ) = updD (hget H) δ
  | [], H => rfl
  | (b, k) :: δ, H => by rw [updL, updD, hget_updL δ, hget_setAt]
theorem updL_append (δ ε : List (Nat × Option Blk)) : ∀ (H : Hp), updL H (δ ++ ε) = updL (updL H δ) ε := by
  induction δ with
  | nil => intro H; rfl
  | cons x δ ih => intro H; obtain ⟨b, k⟩ := x; exact ih _
theorem len_setAt (H : Hp) (b : Nat) (k : Option Blk) : H.length ≤ (setAt H b k).length ∧ b < (setAt H b k).length := by
  unfold setAt; split <;> simp <;> omega
theorem len_updL : ∀ (δ : List (Nat × Option Blk)) (H : Hp), H.length ≤ (updL H δ).length ∧ ∀ b k, (b, k) ∈ δ → b < (updL H δ).length
  | [], H => by simp [updL]
  | (b, k) :: δ, H => by
    obtain ⟨h1, h2⟩ := len_updL δ (setAt H b k)
    have h3 := len_setAt H b k
    refine ⟨by rw [updL]; omega, fun b' k' hb => ?_⟩
    rw [updL]
    rcases List.mem_cons.1 hb with e | hb
    · cases e; omega
    · exact h2 b' k' hb
theorem SD_lt {H : Hp} {δ : List (Nat × Option Blk)} : ∀ b, SD (lt H) δ b → lt (updL H δ) b := fun b hb => by
  obtain ⟨h1, h2⟩ := len_updL δ H
  rcases hb with hb | ⟨k, hb⟩
  · exact Nat.lt_of_lt_of_le hb h1
  · exact h2 b _ hb

structure AOp where
  dst : Option Nat
  op : AO
  g : Option (Nat × Bool)

def gsel (g : Option (Nat × Bool)) (f : FV) (A B : Prop) : Prop :=
  match g with
  | none => A
  | some (s, want) => match f s with
    | .pv (.lit (.bool b)) => if b = want then A else B
    | .pv (.lit (.tuple _)) => B
    | _ => False
/-- operations one after the other -/
def aops (P : Program) : List AOp → Fr → Hp → (Fr → Hp → Prop) → Prop
  | [], fr, H, K => K fr H
  | o :: os, fr, H, K => gsel o.g (get fr) (AXo P o.op H.length (get fr) (hget H) fun v _ δ => aops P os (put o.dst v fr) (updL H δ) K) (aops P os (put o.dst (lv undef) fr) H K)

inductive AC where
  | skip
  | reg (ops : List AOp)
  | dreg (ops : List AOp) (edges looks : List (List Nat))
  | seq (a b : AC)
  | cond (c : Operand) (a b : AC)
  | block (id : Nat) (a : AC)
  | loop (a : AC)
  | exit (id : Nat)
  | ret

def dstOk (N : Nat) : Option Nat → Bool
  | some d => decide (d < N)
  | none => true
def compOper (P : Program) (N : Nat) (ops : List Oper) (o : Oper) : Option AOp :=
  match compOp P o.op with
  | none => none
  | some ao => if dstOk N o.dst = true then match o.guard with
      | none => some ⟨o.dst, ao, none⟩
      | some (j, want) => match ops[j]? with
        | some oj => match oj.dst with
          | some s => if s < N then some ⟨o.dst, ao, some (s, want)⟩ else none
          | none => none
        | none => none
    else none
def compOps (P : Program) (N : Nat) (ops : List Oper) : List Oper → Option (List AOp)
  | [] => some []
  | o :: os => match compOper P N ops o, compOps P N ops os with
    | some a, some as => some (a :: as)
    | _, _ => none
def edgesOf (o : Oper) : List Nat := (o.after.toList.filter (Region.binds .any)).map (·.on)
/-- the slots that an operation looks at -/
def looksOf (ops : List Oper) (o : Oper) : List Nat :=
  (o.op.operands.toList.filterMap fun | .tmp t => some t | _ => none) ++ match o.guard with
    | some (j, _) => match ops[j]? with
      | some oj => match oj.dst with
        | some s => [s]
        | none => []
      | none => []
    | none => []
def compCode (P : Program) (N : Nat) : Code → Option AC
  | .skip => some .skip
  | .region _ ops draw => match compOps P N ops.toList ops.toList with
    | some aos => if draw then some (.dreg aos (ops.toList.map edgesOf) (ops.toList.map (looksOf ops.toList))) else some (.reg aos)
    | none => none
  | .seq a b => match compCode P N a, compCode P N b with
    | some a, some b => some (.seq a b)
    | _, _ => none
  | .cond c a b => match compCode P N a, compCode P N b with
    | some a, some b => some (.cond c a b)
    | _, _ => none
  | .block id a => match compCode P N a with
    | some a => some (.block id a)
    | none => none
  | .loop a => match compCode P N a with
    | some a => some (.loop a)
    | none => none
  | .exit id => some (.exit id)
  | .ret => some .ret
  | _ => none

/-! ### the walk's state -/
abbrev Post := Exit → Fr → Hp → Prop
abbrev ASt (N : Nat) (G : Gh) (fr : Fr) (H : Hp) (a : Act) (w : World) : Prop := St N (lt H) G (get fr) (hget H) a w
/-- the machine's postcondition: some abstract state stands for what there is -/
def lift (N : Nat) (Q : Post) (G0 : Gh) (H0 : Hp) (w0 : World) : Exit → Act → World → Prop := fun e a w =>
  ∃ G fr H, Q e fr H ∧ ASt N G fr H a w ∧ Tr G0 (hget H0) w0 G (hget H) w
def AWp (P : Program) (N : Nat) (c : Code) (Q : Post) (fr : Fr) (H : Hp) : Prop :=
  ∀ G a w, ASt N G fr H a w → c.wp P (lift N Q G H w) a w

theorem getD_set {N : Nat} {a : Act} {d t : Nat} {u : Value} (hs : a.tmps.size = N) (hd : d < N) : (a.tmps.setIfInBounds d u).getD t undef = if d = t then u else a.tmps.getD t undef := by
  simp only [Array.getD_eq_getD_getElem?, Array.getElem?_setIfInBounds]
  by_cases h : d = t
  · subst h; simp [hs, hd]
  · simp [h]
/-- the state behind an operation -/
theorem ASt.put {N : Nat} {G : Gh} {fr : Fr} {H : Hp} {a : Act} {w : World} (st : ASt N G fr H a w) {d : Option Nat} (hd : ∀ x, d = some x → x < N) {δ : List (Nat × Option Blk)} {v : V} {u : Value} {w' : World} {G' : Gh}
    (hle : Gh.le (lt H) G G') (hrel : Rel (SD (lt H) δ) G' (updD (hget H) δ) w') (hR : R G' v u) (hb : v.bd (SD (lt H) δ)) : ASt N G' (Ab.put d v fr) (updL H δ) (a.put d u) w' := by
  have hS : ∀ b, lt H b → lt (updL H δ) b := fun b h => SD_lt b (.inl h)
  refine ⟨by rw [hget_updL]; exact hrel.monoS SD_lt, fun t => ?_, fun t => ?_, ?_, ?_⟩
  · cases d with
    | none => exact R_mono hle _ _ (st.bd t) (st.fr t)
    | some d =>
      simp only [Ab.put, Act.put, get]
      rw [getD_set st.size (hd d rfl)]
      split
      · exact hR
      · exact R_mono hle _ _ (st.bd t) (st.fr t)
  · cases d with
    | none => exact V.bd_mono hS _ (st.bd t)
    | some d =>
      simp only [Ab.put, get]
      split
      · exact V.bd_mono SD_lt _ hb
      · exact V.bd_mono hS _ (st.bd t)
  · cases d <;> simp [Act.put, st.size]
  · cases d <;> simp [Act.put, st.defers]

theorem compOper_spec {P : Program} {N : Nat} {ops : List Oper} {o : Oper} {ao : AOp} (h : compOper P N ops o = some ao) :
    compOp P o.op = some ao.op ∧ ao.dst = o.dst ∧ (∀ x, o.dst = some x → x < N) ∧ ((o.guard = none ∧ ao.g = none) ∨ ∃ j want oj s, o.guard = some (j, want) ∧ ops[j]? = some oj ∧ oj.dst = some s ∧ s < N ∧ ao.g = some (s, want)) := by
  unfold compOper at h
  split at h
  · cases h
  rename_i a ha
  split at h
  case isFalse => cases h
  rename_i hd
  have hd' : ∀ x, o.dst = some x → x < N := fun x hx => by rw [hx] at hd; simpa [dstOk] using hd
  split at h
  · rename_i hg
    simp only [Option.some.injEq] at h; subst h
    exact ⟨ha, rfl, hd', .inl ⟨hg, rfl⟩⟩
  · rename_i j want hg
    split at h
    case h_2 => cases h
    rename_i oj hj
    split at h
    case h_2 => cases h
    rename_i s hs
    split at h
    case isFalse => cases h
    rename_i hlt
    simp only [Option.some.injEq] at h; subst h
    exact ⟨ha, rfl, hd', .inr ⟨j, want, oj, s, hg, hj, hs, hlt, rfl⟩⟩

/-- is the operation carried out? -/
theorem gsel_spec {P : Program} {N : Nat} {ops : List Oper} {o : Oper} {ao : AOp} (h : compOper P N ops o = some ao) {G : Gh} {f : FV} {hp : HF} {S : Nat → Prop} {a : Act} {w : World} (st : St N S G f hp a w) {A B : Prop} (hg : gsel ao.g f A B) :
    (Region.wanted o (yielded ops.toArray a.tmps) = true ∧ A) ∨ (Region.wanted o (yielded ops.toArray a.tmps) = false ∧ B) := by
  obtain ⟨_, _, _, hgd⟩ := compOper_spec h
  rcases hgd with ⟨h1, h2⟩ | ⟨j, want, oj, s, h1, h2, h3, h4, h5⟩
  · rw [h2] at hg
    exact .inl ⟨by simp [Region.wanted, h1], hg⟩
  · rw [h5] at hg
    simp only [gsel] at hg
    have hs : a.tmps[s]? = some (a.tmps.getD s undef) := by
      have : s < a.tmps.size := by rw [st.size]; exact h4
      simp [this]
    have hy : ∀ v, a.tmps.getD s undef = v → yielded ops.toArray a.tmps j = match v with | .bool b => some b | _ => none := fun v hv => by
      unfold yielded
      simp only [List.getElem?_toArray, h2, Option.bind_some, h3]
      rw [hs, hv]
      cases v <;> rfl
    have hfr := st.fr s
    split at hg
    · rename_i b hb
      rw [hb] at hfr; simp only [R, RP] at hfr
      have := hy _ hfr
      split at hg
      · rename_i hbw; exact .inl ⟨by simp [Region.wanted, h1, this, hbw], hg⟩
      · rename_i hbw; exact .inr ⟨by simp [Region.wanted, h1, this, hbw], hg⟩
    · rename_i us hb
      rw [hb] at hfr; simp only [R, RP] at hfr
      have := hy _ hfr
      exact .inr ⟨by simp [Region.wanted, h1, this], hg⟩
    · exact hg.elim

theorem aops_sound {P : Program} {N : Nat} {ops : List Oper} {K : Fr → Hp → Prop} {Q : Exit → Act → World → Prop} {G0 : Gh} {h0 : HF} {w0 : World}
    (hQ : ∀ G fr H a w, K fr H → ASt N G fr H a w → Tr G0 h0 w0 G (hget H) w → Q .normal a w) : ∀ (l : List Oper) (aos : List AOp) (fr : Fr) (H : Hp) (G : Gh) (a : Act) (w : World),
    compOps P N ops l = some aos → aops P aos fr H K → ASt N G fr H a w → Tr G0 h0 w0 G (hget H) w → wpList P ops.toArray Q l a w
  | [], aos, fr, H, G, a, w, hc, hA, st, tr => by
    simp only [compOps, Option.some.injEq] at hc; subst hc
    exact hQ G fr H a w hA st tr
  | o :: l, aos, fr, H, G, a, w, hc, hA, st, tr => by
    simp only [compOps] at hc
    split at hc
    case h_2 => cases hc
    rename_i ao aos' h1 h2
    simp only [Option.some.injEq] at hc; subst hc
    obtain ⟨hop, hdst, hd, _⟩ := compOper_spec h1
    simp only [aops] at hA
    unfold wpList
    rcases gsel_spec h1 st hA with ⟨hw, hA⟩ | ⟨hw, hA⟩
    · rw [if_pos hw]
      obtain ⟨v, rd, δ, hK, hδ, hstp⟩ := AXo_sound hop hA
      refine .inl (hstp N (lt H) G (get fr) (hget H) a w st (fun _ _ => rfl) (fun _ _ => rfl) (Nat.lt_irrefl _) _ _ fun u w' G' g1 g2 g3 g4 g5 => ?_)
      rw [hdst] at hK
      refine aops_sound hQ l aos' _ _ G' _ w' h2 hK (st.put hd g1 g2 g4 g5) (tr.trans ?_)
      rw [hget_updL]; exact g3
    · rw [if_neg (by rw [hw]; simp)]
      rw [hdst] at hA
      refine aops_sound hQ l aos' _ _ G _ w h2 hA ?_ tr
      exact st.put (δ := []) hd (Gh.le.refl _ _) (st.rel.monoS fun b hb => .inl hb) (by simp [R, lv, RP]) (by simp [lv, V.bd])

def thn (K : Fr → Hp → Prop) (Q : Post) : Post
  | .normal, fr, H => K fr H
  | e, fr, H => Q e fr H
def catch_ (id : Nat) (Q : Post) : Post
  | .exit id', fr, H => if id' = id then Q .normal fr H else Q (.exit id') fr H
  | e, fr, H => Q e fr H

section
variable {P : Program} {N : Nat} {Q : Post} {fr : Fr} {H : Hp}
theorem awp_reg {id : Nat} {ops : Array Oper} {aos : List AOp} (hc : compOps P N ops.toList ops.toList = some aos) (hA : aops P aos fr H (Q .normal)) : AWp P N (.region id ops false) Q fr H := by
  intro G a w st
  refine wp_region_list ?_
  have := aops_sound (P := P) (ops := ops.toList) (K := Q .normal) (Q := lift N Q G H w) (G0 := G) (h0 := hget H) (w0 := w) (fun G' fr' H' a' w' hK st' tr' => ⟨G', fr', H', hK, st', tr'⟩) ops.toList aos fr H G a w hc hA st (Tr.refl _ _ _)
  simpa using this
theorem awp_seq {x y : Code} (h : AWp P N x (thn (AWp P N y Q) Q) fr H) : AWp P N (.seq x y) Q fr H := by
  intro G a w st
  refine wp_seq (wp_mono (h G a w st) fun e a' w' hq => ?_)
  obtain ⟨G', fr', H', hQ, st', tr'⟩ := hq
  cases e with
  | normal => exact wp_mono (hQ G' a' w' st') fun e a2 w2 ⟨G2, fr2, H2, q2, st2, tr2⟩ => ⟨G2, fr2, H2, q2, st2, tr'.trans tr2⟩
  | _ => exact ⟨G', fr', H', hQ, st', tr'⟩
theorem awp_cond {c : Operand} {x y : Code} {b : Bool} (hc : ev (get fr) c = .pv (.lit (.bool b))) (h1 : b = true → AWp P N x Q fr H) (h2 : b = false → AWp P N y Q fr H) : AWp P N (.cond c x y) Q fr H := by
  intro G a w st
  have hv := st.ev c; rw [hc] at hv; simp only [R, RP] at hv
  exact wp_cond_split hv (fun hb => h1 hb G a w st) (fun hb => h2 hb G a w st)
theorem awp_block {id : Nat} {x : Code} (h : AWp P N x (catch_ id Q) fr H) : AWp P N (.block id x) Q fr H := by
  intro G a w st
  refine wp_block (wp_mono (h G a w st) fun e a' w' hq => ?_)
  obtain ⟨G', fr', H', hQ, st', tr'⟩ := hq
  cases e with
  | exit id' =>
    simp only [Exit.inBlock]
    simp only [catch_] at hQ
    split
    · rename_i he; rw [if_pos he] at hQ; exact ⟨G', fr', H', hQ, st', tr'⟩
    · rename_i he; rw [if_neg he] at hQ; exact ⟨G', fr', H', hQ, st', tr'⟩
  | _ => exact ⟨G', fr', H', hQ, st', tr'⟩
theorem awp_skip (h : Q .normal fr H) : AWp P N .skip Q fr H := fun G a w st => wp_skip ⟨G, fr, H, h, st, Tr.refl _ _ _⟩
theorem awp_exit {id : Nat} (h : Q (.exit id) fr H) : AWp P N (.exit id) Q fr H := fun G a w st => wp_exit ⟨G, fr, H, h, st, Tr.refl _ _ _⟩
theorem awp_ret (h : Q .ret fr H) : AWp P N .ret Q fr H := fun G a w st => wp_ret ⟨G, fr, H, h, st, Tr.refl _ _ _⟩
end

mutual
/-- other names for the blocks -/
def V.ren (ρ : Nat → Nat) : V → V
  | .junk => .junk
  | .pv p => .pv p
  | .ptr b i o => .ptr (ρ b) i o
  | .row b n fl => .row (ρ b) n fl
  | .agg cs => .agg (V.renL ρ cs)
  | .tup cs => .tup (V.renL ρ cs)
  | .fn f cs => .fn f (V.renL ρ cs)
def V.renL (ρ : Nat → Nat) : List V → List V
  | [] => []
  | c :: cs => V.ren ρ c :: V.renL ρ cs
end
def Gh.ren (G : Gh) (ρ : Nat → Nat) : Gh := { φ := fun b => G.φ (ρ b), κ := fun b => G.κ (ρ b), σ := fun b => G.σ (ρ b), I := G.I }
mutual
theorem R_ren {G : Gh} {ρ : Nat → Nat} : ∀ (v : V) (u : Value), R (G.ren ρ) v u ↔ R G (v.ren ρ) u
  | .junk, u => by simp [R, V.ren]
  | .pv p, u => by simp [R, V.ren, Gh.ren]
  | .ptr b i o, u => by simp [R, V.ren, Gh.ren]
  | .row b n fl, u => by simp [R, V.ren, Gh.ren]
  | .agg cs, u => by simp only [R, V.ren, RL_ren cs]
  | .tup cs, u => by simp only [R, V.ren, RL_ren cs]
  | .fn f cs, u => by simp only [R, V.ren, RL_ren cs]
theorem RL_ren {G : Gh} {ρ : Nat → Nat} : ∀ (vs : List V) (us : List Value), RL (G.ren ρ) vs us ↔ RL G (V.renL ρ vs) us
  | [], us => by simp [RL, V.renL]
  | c :: cs, us => by simp only [RL, V.renL, R_ren c, RL_ren cs]
end
theorem renL_get {ρ : Nat → Nat} : ∀ (cs : List V) (j : Nat), (V.renL ρ cs)[j]? = (cs[j]?).map (V.ren ρ)
  | [], j => by simp [V.renL]
  | c :: cs, j => by cases j <;> simp [V.renL, renL_get cs]
theorem renL_len {ρ : Nat → Nat} : ∀ (cs : List V), (V.renL ρ cs).length = cs.length
  | [] => rfl
  | c :: cs => by simp [V.renL, renL_len cs]

/-- a block under the new names; its tag may be forgotten -/
structure BlkLe (ρ : Nat → Nat) (k' k : Blk) : Prop where
  ro : k'.ro = k.ro
  ty : k'.ty = k.ty
  sz : k'.sz = k.sz
  xs : k'.xs = k.xs.map (V.renL ρ)
  tag : k.tag = none ∨ k'.tag = k.tag
theorem BlkLe.tagged {ρ : Nat → Nat} {k' k : Blk} (h : BlkLe ρ k' k) {m : Nat × Nat × Nat} (hm : k.tag = some m) : k'.tag = some m := by
  rcases h.tag with e | e
  · rw [e] at hm; cases hm
  · rw [e]; exact hm
/-- a state that says less: slots forgotten, blocks forgotten, the others under new names -/
structure Le (ρ : Nat → Nat) (fr : Fr) (H : Hp) (fr' : Fr) (H' : Hp) : Prop where
  fr : ∀ t, get fr' t = .junk ∨ (get fr' t).ren ρ = get fr t
  bd : ∀ t, (get fr' t).bd (lt H')
  hp : ∀ b k, hget H' b = some k → ∃ k', hget H (ρ b) = some k' ∧ BlkLe ρ k' k
  hbd : ∀ b k, hget H' b = some k → ∀ cs ∈ k.xs, V.bdL (lt H') cs
  inj : ∀ b b' k k', hget H' b = some k → hget H' b' = some k' → ρ b = ρ b' → b = b'
theorem ASt.le {N : Nat} {G : Gh} {fr : Fr} {H : Hp} {a : Act} {w : World} (st : ASt N G fr H a w) {ρ : Nat → Nat} {fr' : Fr} {H' : Hp} (h : Le ρ fr H fr' H') : ∃ G', ASt N G' fr' H' a w ∧ Tr G (hget H) w G' (hget H') w := by
  have hlive : ∀ b k, hget H' b = some k → lt H' b := fun b k e => by
    unfold hget at e
    unfold lt
    rcases Nat.lt_or_ge b H'.length with hb | hb
    · exact hb
    · rw [List.getElem?_eq_none hb] at e; cases e
  refine ⟨G.ren ρ, ⟨⟨st.rel.imm, fun b k e => ?_, fun b b' k k' e e' eφ => ?_, fun b k e hro => ?_, fun b k e => hlive b k e, fun b k e => h.hbd b k e⟩,
    fun t => ?_, h.bd, st.size, st.defers⟩, ⟨rfl, rfl, rfl, Nat.le_refl _, Imm.le.refl _, fun _ _ _ => rfl, fun b k e hro _ => ?_, fun b k e _ => ?_, fun a v e _ => .inl e⟩⟩
  · obtain ⟨k', e0, kl⟩ := h.hp b k e
    obtain ⟨arr, e1, rr⟩ := st.rel.blk (ρ b) _ e0
    have hl : k'.xs.length = k.xs.length := by rw [kl.xs, List.length_map]
    refine ⟨arr, by rw [← kl.ty]; exact e1, ⟨kl.sz.symm.trans rr.sz, rr.size, by rw [← hl, ← kl.sz]; exact rr.fits, fun i cs hi => ?_, fun i j cs c hi hj => ?_, fun hro i hi => rr.ro (kl.ro.trans hro) i (by rw [hl, kl.sz]; exact hi), fun m hm => rr.tag m (kl.tagged hm)⟩⟩
    · have := rr.len i (V.renL ρ cs) (by simp only [kl.xs, List.getElem?_map, hi, Option.map_some])
      rw [renL_len] at this; exact this.trans kl.sz
    · obtain ⟨u, q1, q2, q3⟩ := rr.cell i j (V.renL ρ cs) (V.ren ρ c) (by simp only [kl.xs, List.getElem?_map, hi, Option.map_some]) (by rw [renL_get, hj]; rfl)
      exact ⟨u, by rw [← kl.sz]; exact q1, q2, (R_ren c u).2 q3⟩
  · obtain ⟨k1, e0, _⟩ := h.hp b k e
    obtain ⟨k1', e0', _⟩ := h.hp b' k' e'
    exact h.inj b b' k k' e e' (st.rel.inj _ _ _ _ e0 e0' eφ)
  · obtain ⟨k1, e0, kl⟩ := h.hp b k e
    exact st.rel.sep (ρ b) _ e0 (kl.ro.trans hro)
  · rcases h.fr t with e | e
    · rw [e]; simp [R]
    · exact (R_ren _ _).2 (by rw [e]; exact st.fr t)
  · obtain ⟨k1, e0, kl⟩ := h.hp b k e
    exact ⟨ρ b, _, e0, kl.ro.trans hro, rfl⟩
  · obtain ⟨k1, e0, _⟩ := h.hp b k e
    exact ⟨ρ b, _, e0, rfl⟩
end Go.Ab
/- Regions that draw their order: the order of the text serves every order, where what two operations touch lets them be exchanged. -/
set_option linter.unusedVariables false
set_option linter.unusedSimpArgs false
namespace Go.Ab
open Go.RowKit

/-! ### places and what they hold -/
inductive Loc where
  | slot (t : Nat)
  | blk (b : Nat)
  deriving DecidableEq
inductive Cnt where
  | v (x : V)
  | k (x : Option Blk)
abbrev Sta := Loc → Cnt
abbrev Wr := List (Loc × Cnt)
def wapp (σ : Sta) : Wr → Sta
  | [] => σ
  | (l, c) :: w => wapp (fun x => if x = l then c else σ x) w
def wkeys (w : Wr) : List Loc := w.map (·.1)
theorem wapp_not {w : Wr} {l : Loc} : ∀ {σ : Sta}, l ∉ wkeys w → wapp σ w l = σ l := by
  induction w with
  | nil => intro σ _; rfl
  | cons x w ih =>
    intro σ h
    simp only [wkeys, List.map_cons, List.mem_cons, not_or] at h
    rw [wapp, ih (by simpa [wkeys] using h.2)]
    simp [h.1]
theorem wapp_key {w : Wr} {l : Loc} : ∀ {σ σ' : Sta}, l ∈ wkeys w → wapp σ w l = wapp σ' w l := by
  induction w with
  | nil => intro σ σ' h; simp [wkeys] at h
  | cons x w ih =>
    intro σ σ' h
    rw [wapp, wapp]
    by_cases hw : l ∈ wkeys w
    · exact ih hw
    · rw [wapp_not hw, wapp_not hw]
      simp only [wkeys, List.map_cons, List.mem_cons] at h
      rcases h with h | h
      · simp [h]
      · exact absurd (by simpa [wkeys] using h) hw
theorem wapp_congr {w : Wr} {σ σ' : Sta} {l : Loc} (h : σ l = σ' l) : wapp σ w l = wapp σ' w l := by
  by_cases hw : l ∈ wkeys w
  · exact wapp_key hw
  · rw [wapp_not hw, wapp_not hw, h]

/-- the writes ws, those whose number is in D, one after the other -/
def run (ws : Nat → Wr) (D : Nat → Bool) (σ : Sta) : Nat → Sta
  | 0 => σ
  | n + 1 => if D n then wapp (run ws D σ n) (ws n) else run ws D σ n
/-- two sets of numbers that have the same writers of a place -/
theorem run_same {ws : Nat → Wr} {D D' : Nat → Bool} {σ : Sta} {l : Loc} : ∀ (n : Nat), (∀ j, j < n → l ∈ wkeys (ws j) → D j = D' j) → run ws D σ n l = run ws D' σ n l
  | 0, _ => rfl
  | n + 1, h => by
    have ih := run_same (σ := σ) n fun j hj => h j (by omega)
    simp only [run]
    by_cases hl : l ∈ wkeys (ws n)
    · rw [h n (by omega) hl]
      split
      · exact wapp_key hl
      · exact ih
    · split <;> split <;> first | exact wapp_congr ih | (rw [wapp_not hl]; exact ih) | (rw [ih, wapp_not hl]) | exact ih
/-- behind the last writer nothing turns -/
theorem run_stop {ws : Nat → Wr} {D : Nat → Bool} {σ : Sta} {l : Loc} {i : Nat} : ∀ (n : Nat), i ≤ n → (∀ j, i ≤ j → j < n → D j = true → l ∉ wkeys (ws j)) → run ws D σ n l = run ws D σ i l
  | 0, h, _ => by have : i = 0 := by omega
                  subst this; rfl
  | n + 1, h, hn => by
    by_cases he : i = n + 1
    · subst he; rfl
    · simp only [run]
      split
      · rename_i hd
        rw [wapp_not (hn n (by omega) (by omega) hd)]; exact run_stop n (by omega) fun j h1 h2 => hn j h1 (by omega)
      · exact run_stop n (by omega) fun j h1 h2 => hn j h1 (by omega)
theorem run_le {ws : Nat → Wr} {D D' : Nat → Bool} {σ : Sta} {i : Nat} (n : Nat) (h : ∀ j, j < i → D j = D' j) : run ws D σ i = run ws D' σ i := by
  induction i with
  | zero => rfl
  | succ i ih => simp only [run]; rw [ih fun j hj => h j (by omega), h i (by omega)]

/-! ### the check -/
/-- which operations come ahead of each, by the edges -/
def clos : List (List Nat) → List (List Nat) → List (List Nat)
  | [], acc => acc
  | es :: rest, acc => clos rest (acc ++ [es ++ es.flatMap fun e => acc.getD e []])
structure Foot where
  looks : List Nat
  dst : Option Nat
  rd : List Nat
  wr : List Nat
def Foot.keys (x : Foot) : List Loc := (match x.dst with | some d => [Loc.slot d] | none => []) ++ x.wr.map .blk
def Foot.touch (x : Foot) : List Loc := x.looks.map .slot ++ x.rd.map .blk ++ x.keys
def clash (x y : Foot) : Bool := x.keys.any (fun l => y.touch.contains l) || y.keys.any (fun l => x.touch.contains l)
/-- is j ahead of i, by the edges -/
def ahead (cl : List (List Nat)) (j i : Nat) : Bool := (cl.getD i []).contains j
def indep (base : Nat) (edges : List (List Nat)) (fs : List Foot) : Bool :=
  let cl := clos edges []
  edges.length == fs.length &&
  (List.range fs.length).all fun i => match fs[i]? with
    | none => false
    | some x => (edges.getD i []).all (fun e => decide (e < i)) && (x.rd ++ x.wr).all (fun b => decide (b < base) || b == base + i || (decide (base ≤ b) && ahead cl (b - base) i)) &&
      (List.range i).all fun j => match fs[j]? with
        | none => false
        | some y => !clash y x || ahead cl j i

/-- j comes ahead of i -/
inductive Path (edges : List (List Nat)) : Nat → Nat → Prop
  | edge (j i : Nat) : j ∈ edges.getD i [] → Path edges j i
  | step (j k i : Nat) : Path edges j k → k ∈ edges.getD i [] → Path edges j i
theorem clos_spec (edges : List (List Nat)) : ∀ (rest acc : List (List Nat)), edges = edges.take acc.length ++ rest → acc.length ≤ edges.length → (∀ i j, j ∈ acc.getD i [] → Path edges j i) → ∀ i j, j ∈ (clos rest acc).getD i [] → Path edges j i
  | [], acc, _, _, h, i, j, hj => h i j (by simpa [clos] using hj)
  | es :: rest, acc, he, hl, h, i, j, hj => by
    rw [clos] at hj
    have hes : edges[acc.length]? = some es := by
      rw [he, List.getElem?_append_right (by rw [List.length_take]; omega), List.length_take, Nat.min_eq_left hl]; simp
    have hlt : acc.length < edges.length := (List.getElem?_eq_some_iff.1 hes).1
    refine clos_spec edges rest _ ?_ ?_ ?_ i j hj
    · rw [List.length_append, List.length_singleton, List.take_succ_eq_append_getElem hlt, List.append_assoc]
      have : edges[acc.length] = es := by rw [List.getElem?_eq_getElem hlt] at hes; exact Option.some.inj hes
      rw [this]; exact he
    · simp; omega
    · intro i j hj
      rw [List.getD_eq_getElem?_getD, List.getElem?_append] at hj
      split at hj
      · exact h i j (by rw [List.getD_eq_getElem?_getD]; exact hj)
      · rename_i hge
        by_cases hi : i = acc.length
        · subst hi
          simp only [Nat.sub_self, List.getElem?_cons_zero, Option.getD_some, List.mem_append, List.mem_flatMap] at hj
          have hed : edges.getD acc.length [] = es := by rw [List.getD_eq_getElem?_getD, hes]; rfl
          rcases hj with hj | ⟨e, he', hj⟩
          · exact .edge j _ (by rw [hed]; exact hj)
          · exact .step j e _ (h e j hj) (by rw [hed]; exact he')
        · rw [List.getElem?_eq_none (by simp; omega)] at hj
          simp at hj
theorem ahead_spec {edges : List (List Nat)} {j i : Nat} (h : ahead (clos edges []) j i = true) : Path edges j i := by
  refine clos_spec edges edges [] (by simp) (Nat.zero_le _) (by simp) i j ?_
  simpa [ahead] using h
theorem Path.done {edges : List (List Nat)} {D : Nat → Bool} (hD : ∀ i j, D i = true → j ∈ edges.getD i [] → D j = true) {j i : Nat} (p : Path edges j i) : (∀ e ∈ edges.getD i [], D e = true) → D j = true := by
  induction p with
  | edge i h => exact fun he => he j h
  | step k i p hk ih => exact fun he => ih fun e hke => hD k e (he k hk) hke
theorem Path.closed {edges : List (List Nat)} {D : Nat → Bool} (hD : ∀ i j, D i = true → j ∈ edges.getD i [] → D j = true) {j i : Nat} (p : Path edges j i) (hi : D i = true) : D j = true :=
  p.done hD fun e he => hD i e hi he

/-- what the check gives -/
structure Ind (base : Nat) (edges : List (List Nat)) (fs : List Foot) : Prop where
  len : edges.length = fs.length
  low : ∀ i, i < fs.length → ∀ e ∈ edges.getD i [], e < i
  ids : ∀ (i : Nat) x, fs[i]? = some x → ∀ b, b ∈ x.rd ∨ b ∈ x.wr → b < base ∨ b = base + i ∨ ∃ j, b = base + j ∧ Path edges j i
  ord : ∀ (i j : Nat) x y, fs[i]? = some x → fs[j]? = some y → j < i → (∃ l, (l ∈ y.keys ∧ l ∈ x.touch) ∨ (l ∈ x.keys ∧ l ∈ y.touch)) → Path edges j i
theorem indep_spec {base : Nat} {edges : List (List Nat)} {fs : List Foot} (h : indep base edges fs = true) : Ind base edges fs := by
  unfold indep at h
  simp only [Bool.and_eq_true, beq_iff_eq, List.all_eq_true, List.mem_range] at h
  obtain ⟨h1, h2⟩ := h
  refine ⟨h1, fun i hi e he => ?_, fun i x hx b hb => ?_, fun i j x y hx hy hj hl => ?_⟩
  · have := h2 i hi
    rw [List.getElem?_eq_getElem hi] at this
    simp only [Bool.and_eq_true, List.all_eq_true, decide_eq_true_eq] at this
    exact this.1.1 e he
  · have hi : i < fs.length := (List.getElem?_eq_some_iff.1 hx).1
    have := h2 i hi
    rw [hx] at this
    simp only [Bool.and_eq_true, List.all_eq_true, Bool.or_eq_true, decide_eq_true_eq, beq_iff_eq] at this
    rcases this.1.2 b (by simpa using hb) with (h3 | h3) | ⟨h3, h4⟩
    · exact .inl h3
    · exact .inr (.inl h3)
    · exact .inr (.inr ⟨b - base, by omega, ahead_spec h4⟩)
  · have hi : i < fs.length := (List.getElem?_eq_some_iff.1 hx).1
    have := h2 i hi
    rw [hx] at this
    simp only [Bool.and_eq_true, List.all_eq_true, List.mem_range] at this
    have := this.2 j hj
    rw [hy] at this
    simp only [Bool.or_eq_true, Bool.not_eq_true'] at this
    rcases this with h3 | h3
    · exfalso
      obtain ⟨l, ⟨h4, h5⟩ | ⟨h4, h5⟩⟩ := hl
      · have : clash y x = true := by
          unfold clash; rw [Bool.or_eq_true]; left
          exact List.any_eq_true.2 ⟨l, h4, by simpa using h5⟩
        rw [this] at h3; cases h3
      · have : clash y x = true := by
          unfold clash; rw [Bool.or_eq_true]; right
          exact List.any_eq_true.2 ⟨l, h4, by simpa using h5⟩
        rw [this] at h3; cases h3
    · exact ahead_spec h3

/-! ### an operation that may come up finds what it found in the order of the text -/
section
variable {base : Nat} {edges : List (List Nat)} {fs : List Foot} {ws : Nat → Wr} {σ : Sta} {D : Nat → Bool}
/-- writes and footprints belong together -/
def Fits (fs : List Foot) (ws : Nat → Wr) : Prop := ∀ (i : Nat) x, fs[i]? = some x → ∀ l, l ∈ wkeys (ws i) ↔ l ∈ x.keys
theorem found (hi : Ind base edges fs) (hw : Fits fs ws) (hD : ∀ i j, D i = true → j ∈ edges.getD i [] → D j = true) (hDn : ∀ i, D i = true → i < fs.length) {i : Nat} {x : Foot} (hx : fs[i]? = some x)
    (hun : D i = false) (hready : ∀ e ∈ edges.getD i [], D e = true) {l : Loc} (hl : l ∈ x.touch) : run ws D σ fs.length l = run ws (fun _ => true) σ i l := by
  have hilt : i < fs.length := (List.getElem?_eq_some_iff.1 hx).1
  have key : ∀ j, j < fs.length → l ∈ wkeys (ws j) → (D j = true ↔ j < i) := fun j hj hlj => by
    have hy := List.getElem?_eq_getElem hj
    have hlk := (hw j _ hy l).1 hlj
    rcases Nat.lt_trichotomy j i with h | h | h
    · exact ⟨fun _ => h, fun _ => (hi.ord i j x _ hx hy h ⟨l, .inl ⟨hlk, hl⟩⟩).done hD hready⟩
    · subst h; rw [hun]; simp
    · refine ⟨fun hd => ?_, fun h' => by omega⟩
      have := (hi.ord j i _ x hy hx h ⟨l, .inr ⟨hlk, hl⟩⟩).closed hD hd
      rw [hun] at this; cases this
  rw [run_stop (i := i) fs.length (by omega) fun j h1 h2 hd hlj => by have := (key j h2 hlj).1 hd; omega]
  exact run_same i fun j hj hlj => by
    have := (key j (by omega) hlj).2 hj
    rw [this]
theorem stepped (hi : Ind base edges fs) (hw : Fits fs ws) (hD : ∀ i j, D i = true → j ∈ edges.getD i [] → D j = true) {i : Nat} {x : Foot} (hx : fs[i]? = some x)
    (hun : D i = false) (hready : ∀ e ∈ edges.getD i [], D e = true) (l : Loc) : wapp (run ws D σ fs.length) (ws i) l = run ws (fun j => D j || j == i) σ fs.length l := by
  have hilt : i < fs.length := (List.getElem?_eq_some_iff.1 hx).1
  by_cases hl : l ∈ wkeys (ws i)
  · have hlx : l ∈ x.keys := (hw i x hx l).1 hl
    have hlt : l ∈ x.touch := by simp only [Foot.touch, List.mem_append]; exact .inr hlx
    rw [run_stop (D := fun j => D j || j == i) (i := i + 1) fs.length (by omega) fun j h1 h2 hd hlj => ?_]
    · simp only [run, beq_self_eq_true, Bool.or_true, if_true]
      exact wapp_key hl
    · have hy := List.getElem?_eq_getElem h2
      have hlk := (hw j _ hy l).1 hlj
      have hdj : D j = true := by
        simp only [Bool.or_eq_true, beq_iff_eq] at hd
        rcases hd with hd | hd
        · exact hd
        · omega
      have := (hi.ord j i _ x hy hx (by omega) ⟨l, .inr ⟨hlk, hlt⟩⟩).closed hD hdj
      rw [hun] at this; cases this
  · rw [wapp_not hl]
    exact run_same fs.length fun j hj hlj => by
      have : j ≠ i := by rintro rfl; exact hl hlj
      simp [this]
end
end Go.Ab
/- Regions that draw their order. -/
set_option linter.unusedVariables false
set_option linter.unusedSimpArgs false
namespace Go.Ab
open Go.RowKit

/-- operations in the order of the text, what each touches written down -/
def aopsD (P : Program) (base : Nat) : Nat → List AOp → List (List Nat) → Fr → Hp → List Foot → (List Foot → Fr → Hp → Prop) → Prop
  | _, [], _, fr, H, tr, K => K tr fr H
  | i, o :: os, lks, fr, H, tr, K => gsel o.g (get fr)
      (AXo P o.op (base + i) (get fr) (hget H) fun v rd δ => aopsD P base (i + 1) os lks.tail (put o.dst v fr) (updL H δ) (tr ++ [⟨lks.headD [], o.dst, rd, δ.map (·.1)⟩]) K)
      (aopsD P base (i + 1) os lks.tail (put o.dst (lv undef) fr) H (tr ++ [⟨lks.headD [], o.dst, [], []⟩]) K)

theorem gsel_split {g : Option (Nat × Bool)} {f : FV} {A B : Prop} (h : gsel g f A B) : (A ∧ gsel g f True False) ∨ (B ∧ gsel g f False True) := by
  unfold gsel at *
  cases g with
  | none => exact .inl ⟨h, trivial⟩
  | some x =>
    obtain ⟨s, want⟩ := x
    simp only at h ⊢
    split at h
    · rename_i b hb
      split at h
      · rename_i hw; exact .inl ⟨h, by simp [hw]⟩
      · rename_i hw; exact .inr ⟨h, by simp [hw]⟩
    · exact .inr ⟨h, trivial⟩
    · exact h.elim
theorem gsel_congr {g : Option (Nat × Bool)} {f f' : FV} {A B : Prop} (he : ∀ s want, g = some (s, want) → f' s = f s) (h : gsel g f A B) : gsel g f' A B := by
  unfold gsel at *
  cases g with
  | none => exact h
  | some x => obtain ⟨s, want⟩ := x; simp only at h ⊢; rw [he s want rfl]; exact h

/-- what the walk in the order of the text has found -/
structure Trc (P : Program) (N base i : Nat) (ops l : List Oper) (lks : List (List Nat)) (fr : Fr) (H : Hp) (vs : Nat → V) (rds : Nat → List Nat) (δs : Nat → List (Nat × Option Blk)) (wts : Nat → Bool) (FS : Nat → Fr) (HS : Nat → Hp) (fs : List Foot) : Prop where
  f0 : FS 0 = fr
  h0 : HS 0 = H
  len : fs.length = l.length
  at_ : ∀ (m : Nat) o, l[m]? = some o → ∃ ao, compOper P N ops o = some ao ∧ fs[m]? = some ⟨lks.getD m [], o.dst, rds m, (δs m).map (·.1)⟩ ∧ FS (m + 1) = put o.dst (vs m) (FS m) ∧ HS (m + 1) = updL (HS m) (δs m) ∧
    gsel ao.g (get (FS m)) (wts m = true) (wts m = false) ∧ (wts m = true → Stp P o (base + (i + m)) (get (FS m)) (hget (HS m)) (vs m) (rds m) (δs m)) ∧ (wts m = false → vs m = lv undef ∧ rds m = [] ∧ δs m = [])

theorem trace {P : Program} {N base : Nat} {ops : List Oper} {K : List Foot → Fr → Hp → Prop} : ∀ (l : List Oper) (aos : List AOp) (lks : List (List Nat)) (fr : Fr) (H : Hp) (i : Nat) (tr : List Foot), compOps P N ops l = some aos →
    aopsD P base i aos lks fr H tr K → ∃ vs rds δs wts FS HS fs, Trc P N base i ops l lks fr H vs rds δs wts FS HS fs ∧ K (tr ++ fs) (FS l.length) (HS l.length)
  | [], aos, lks, fr, H, i, tr, hc, hA => by
    simp only [compOps, Option.some.injEq] at hc; subst hc
    exact ⟨fun _ => .junk, fun _ => [], fun _ => [], fun _ => false, fun _ => fr, fun _ => H, [], ⟨rfl, rfl, rfl, by simp⟩, by simpa [aopsD] using hA⟩
  | o :: l, aos, lks, fr, H, i, tr, hc, hA => by
    simp only [compOps] at hc
    split at hc
    case h_2 => cases hc
    rename_i ao aos' h1 h2
    simp only [Option.some.injEq] at hc; subst hc
    obtain ⟨hop, hdst, hd, _⟩ := compOper_spec h1
    simp only [aopsD] at hA
    have fin : ∀ (v : V) (rd : List Nat) (δ : List (Nat × Option Blk)) (wt : Bool), aopsD P base (i + 1) aos' lks.tail (put ao.dst v fr) (updL H δ) (tr ++ [⟨lks.headD [], ao.dst, rd, δ.map (·.1)⟩]) K →
        gsel ao.g (get fr) (wt = true) (wt = false) → (wt = true → Stp P o (base + i) (get fr) (hget H) v rd δ) → (wt = false → v = lv undef ∧ rd = [] ∧ δ = []) →
        ∃ vs rds δs wts FS HS fs, Trc P N base i ops (o :: l) lks fr H vs rds δs wts FS HS fs ∧ K (tr ++ fs) (FS (o :: l).length) (HS (o :: l).length) := by
      intro v rd δ wt hA' hg hs hu
      obtain ⟨vs, rds, δs, wts, FS, HS, fs, ht, hK⟩ := trace l aos' lks.tail _ _ (i + 1) _ h2 hA'
      refine ⟨fun m => m.casesOn v vs, fun m => m.casesOn rd rds, fun m => m.casesOn δ δs, fun m => m.casesOn wt wts, fun m => m.casesOn fr FS, fun m => m.casesOn H HS, ⟨lks.headD [], ao.dst, rd, δ.map (·.1)⟩ :: fs, ⟨rfl, rfl, by simp [ht.len], fun m o' ho => ?_⟩, by simpa using hK⟩
      cases m with
      | zero =>
        simp only [List.getElem?_cons_zero, Option.some.injEq] at ho; subst ho
        refine ⟨ao, h1, ?_, ?_, ?_, hg, (fun hw => by have := hs hw; rw [show base + (i + 0) = base + i by omega]; exact this), hu⟩
        · simp only [List.getElem?_cons_zero, hdst]
          cases lks <;> rfl
        · show FS 0 = put o.dst v fr
          rw [ht.f0, hdst]
        · show HS 0 = updL H δ
          rw [ht.h0]
      | succ m =>
        simp only [List.getElem?_cons_succ] at ho
        obtain ⟨ao', q1, q2, q3, q4, q5, q6, q7⟩ := ht.at_ m o' ho
        refine ⟨ao', q1, ?_, q3, q4, q5, fun hw => ?_, q7⟩
        · simp only [List.getElem?_cons_succ]
          rw [q2]
          cases lks <;> simp
        · have := q6 hw
          rw [show base + (i + 1 + m) = base + (i + (m + 1)) by omega] at this
          exact this
    rcases gsel_split hA with ⟨hA, hg⟩ | ⟨hA, hg⟩
    · obtain ⟨v, rd, δ, hK, hδ, hstp⟩ := AXo_sound hop hA
      exact fin v rd δ true hK (by simpa using hg) (fun _ => hstp) (by simp)
    · exact fin (lv undef) [] [] false (by simpa [updL] using hA) (by simpa using hg) (by simp) fun _ => ⟨rfl, rfl, rfl⟩

/-! ### states as places -/
def staOf (f : FV) (h : HF) : Sta
  | .slot t => .v (f t)
  | .blk b => .k (h b)
def fOf (σ : Sta) : FV := fun t => match σ (.slot t) with
  | .v x => x
  | .k _ => .junk
def hOf (σ : Sta) : HF := fun b => match σ (.blk b) with
  | .k x => x
  | .v _ => none
def wrOf (d : Option Nat) (v : V) (δ : List (Nat × Option Blk)) : Wr :=
  (match d with | some d => [(Loc.slot d, Cnt.v v)] | none => []) ++ δ.map fun p => (Loc.blk p.1, Cnt.k p.2)
theorem wkeys_wrOf (d : Option Nat) (v : V) (δ : List (Nat × Option Blk)) (lk rd : List Nat) (l : Loc) : l ∈ wkeys (wrOf d v δ) ↔ l ∈ (⟨lk, d, rd, δ.map (·.1)⟩ : Foot).keys := by
  cases d <;> simp [wkeys, wrOf, Foot.keys]
/-- what it is: slots hold values, blocks hold blocks -/
def Shp (σ : Sta) : Prop := (∀ t, ∃ x, σ (.slot t) = .v x) ∧ ∀ b, ∃ x, σ (.blk b) = .k x
theorem wapp_blks (δ : List (Nat × Option Blk)) : ∀ (σ : Sta) (f : FV) (h : HF), σ = staOf f h → wapp σ (δ.map fun p => (Loc.blk p.1, Cnt.k p.2)) = staOf f (updD h δ) := by
  induction δ with
  | nil => intro σ f h e; simpa [wapp, updD] using e
  | cons p δ ih =>
    intro σ f h e
    obtain ⟨b, k⟩ := p
    simp only [List.map_cons, wapp, updD]
    refine ih _ f (upd h b k) ?_
    funext x
    subst e
    cases x with
    | slot t => simp [staOf]
    | blk c =>
      by_cases hc : c = b
      · subst hc; simp [staOf, upd]
      · simp [staOf, upd, hc]
def fput (d : Option Nat) (v : V) (f : FV) : FV := match d with
  | some d => fun t => if d = t then v else f t
  | none => f
theorem get_put (d : Option Nat) (v : V) (fr : Fr) : get (put d v fr) = fput d v (get fr) := by
  cases d <;> rfl
theorem wapp_wrOf (d : Option Nat) (v : V) (δ : List (Nat × Option Blk)) (f : FV) (h : HF) : wapp (staOf f h) (wrOf d v δ) = staOf (fput d v f) (updD h δ) := by
  cases d with
  | none => exact wapp_blks δ _ _ _ rfl
  | some d =>
    simp only [wrOf, List.cons_append, List.nil_append, wapp]
    refine wapp_blks δ _ _ _ ?_
    funext x
    cases x with
    | slot t =>
      by_cases ht : t = d
      · subst ht; simp [staOf, fput]
      · have ht2 : ¬ d = t := fun e => ht e.symm
        simp [staOf, fput, ht, ht2]
    | blk c => simp [staOf]
theorem staOf_of {σ : Sta} {f : FV} {h : HF} (e : σ = staOf f h) : fOf σ = f ∧ hOf σ = h := by
  subst e; exact ⟨rfl, rfl⟩

theorem rep_false (n i : Nat) : (Array.replicate n false).getD i false = false := by
  rw [Array.getD_eq_getD_getElem?, Array.getElem?_replicate]
  split <;> rfl
theorem awp_dreg {P : Program} {N : Nat} {Q : Post} {fr : Fr} {H : Hp} {id : Nat} {ops : Array Oper} {aos : List AOp} (hm : P.follows .mixedOrders = true) (hc : compOps P N ops.toList ops.toList = some aos)
    (hA : aopsD P H.length 0 aos (ops.toList.map (looksOf ops.toList)) fr H [] fun tr fr' H' => indep H.length (ops.toList.map edgesOf) tr = true ∧ Q .normal fr' H') : AWp P N (.region id ops true) Q fr H := by
  intro G0 a0 w0 st0
  obtain ⟨vs, rds, δs, wts, FS, HS, fs, ht, hind, hQ⟩ := trace ops.toList aos _ fr H 0 [] hc hA
  simp only [List.nil_append] at hind
  have hI := indep_spec hind
  have hlen : fs.length = ops.size := by rw [ht.len]; simp
  -- one operation's record
  have recd : ∀ i, i < ops.size → ∃ o ao, ops[i]? = some o ∧ compOper P N ops.toList o = some ao ∧ fs[i]? = some ⟨looksOf ops.toList o, o.dst, rds i, (δs i).map (·.1)⟩ ∧ FS (i + 1) = put o.dst (vs i) (FS i) ∧ HS (i + 1) = updL (HS i) (δs i) ∧
      gsel ao.g (get (FS i)) (wts i = true) (wts i = false) ∧ (wts i = true → Stp P o (H.length + i) (get (FS i)) (hget (HS i)) (vs i) (rds i) (δs i)) ∧ (wts i = false → vs i = lv undef ∧ rds i = [] ∧ δs i = []) := fun i hi => by
    have ho : ops.toList[i]? = some ops[i] := by rw [Array.getElem?_toList, Array.getElem?_eq_getElem hi]
    obtain ⟨ao, q1, q2, q3, q4, q5, q6, q7⟩ := ht.at_ i _ ho
    refine ⟨ops[i], ao, Array.getElem?_eq_getElem hi, q1, ?_, q3, q4, q5, fun hw => by simpa using q6 hw, q7⟩
    rw [q2, List.getD_eq_getElem?_getD, List.getElem?_map, ho]; rfl
  let ws : Nat → Wr := fun i => match ops[i]? with
    | some o => wrOf o.dst (vs i) (δs i)
    | none => []
  have hws : ∀ i o, ops[i]? = some o → ws i = wrOf o.dst (vs i) (δs i) := fun i o ho => by simp only [ws, ho]
  have hfit : Fits fs ws := fun i x hx l => by
    have hi : i < ops.size := by rw [← hlen]; exact (List.getElem?_eq_some_iff.1 hx).1
    obtain ⟨o, ao, q0, _, q2, _⟩ := recd i hi
    rw [q2] at hx; cases hx
    rw [hws i o q0]; exact wkeys_wrOf _ _ _ _ _ l
  have hlex : ∀ i, i ≤ ops.size → Ab.run ws (fun _ => true) (staOf (get fr) (hget H)) i = staOf (get (FS i)) (hget (HS i)) := by
    intro i
    induction i with
    | zero => intro _; simp only [Ab.run]; rw [ht.f0, ht.h0]
    | succ i ih =>
      intro hi
      obtain ⟨o, ao, q0, _, _, q3, q4, _⟩ := recd i (by omega)
      simp only [Ab.run, if_true]
      rw [ih (by omega), hws i o q0, wapp_wrOf, q3, q4, get_put, hget_updL]
  have hshape : ∀ (D : Nat → Bool) n, ∃ f h, Ab.run ws D (staOf (get fr) (hget H)) n = staOf f h := by
    intro D n
    induction n with
    | zero => exact ⟨_, _, rfl⟩
    | succ n ih =>
      obtain ⟨f, h, e⟩ := ih
      simp only [Ab.run]
      split
      · rw [e]
        cases ho : ops[n]? with
        | none => simp only [ws, ho]; exact ⟨f, h, rfl⟩
        | some o => rw [hws n o ho, wapp_wrOf]; exact ⟨_, _, rfl⟩
      · exact ⟨f, h, e⟩
  -- the state when the operations of D are done
  let SDn : (Nat → Bool) → Nat → Prop := fun D b => lt H b ∨ ∃ i, i < ops.size ∧ D i = true ∧ ∃ k, (b, some k) ∈ δs i
  have main : ∀ (fuel : Nat) (listed : Array Bool) (a : Act) (w : World), listed.size = ops.size → ((List.range ops.size).filter fun i => !listed.getD i true).length ≤ fuel →
      (∀ i j, listed.getD i false = true → j ∈ (ops.toList.map edgesOf).getD i [] → listed.getD j false = true) →
      (∃ G, St N (SDn fun i => listed.getD i false) G (fOf (Ab.run ws (fun i => listed.getD i false) (staOf (get fr) (hget H)) ops.size)) (hOf (Ab.run ws (fun i => listed.getD i false) (staOf (get fr) (hget H)) ops.size)) a w ∧
        Tr G0 (hget H) w0 G (hOf (Ab.run ws (fun i => listed.getD i false) (staOf (get fr) (hget H)) ops.size)) w) →
      wpAny P .any ops (lift N Q G0 H w0) fuel listed a w := by
    intro fuel
    -- when all is done
    have last : ∀ (listed : Array Bool) (a : Act) (w : World), (∀ i, i < ops.size → listed.getD i false = true) → (∃ G, St N (SDn fun i => listed.getD i false) G (fOf (Ab.run ws (fun i => listed.getD i false) (staOf (get fr) (hget H)) ops.size)) (hOf (Ab.run ws (fun i => listed.getD i false) (staOf (get fr) (hget H)) ops.size)) a w ∧
        Tr G0 (hget H) w0 G (hOf (Ab.run ws (fun i => listed.getD i false) (staOf (get fr) (hget H)) ops.size)) w) → lift N Q G0 H w0 .normal a w := by
      intro listed a w hall ⟨G, st, tr⟩
      have e : Ab.run ws (fun i => listed.getD i false) (staOf (get fr) (hget H)) ops.size = staOf (get (FS ops.size)) (hget (HS ops.size)) := by
        rw [← hlex ops.size (Nat.le_refl _)]
        exact run_le ops.size fun j hj => hall j hj
      rw [e] at st tr
      have hl : ops.toList.length = ops.size := by simp
      rw [hl] at hQ
      refine ⟨G, FS ops.size, HS ops.size, hQ, ?_, tr⟩
      have hS : ∀ b, SDn (fun i => listed.getD i false) b → lt (HS ops.size) b := by
        have grow : ∀ m, m ≤ ops.size → H.length ≤ (HS m).length ∧ ∀ i, i < m → ∀ b k, (b, some k) ∈ δs i → b < (HS m).length := by
          intro m
          induction m with
          | zero => intro _; rw [ht.h0]; exact ⟨Nat.le_refl _, by simp⟩
          | succ m ih =>
            intro hm'
            obtain ⟨o, ao, _, _, _, _, q4, _⟩ := recd m (by omega)
            obtain ⟨i1, i2⟩ := ih (by omega)
            obtain ⟨j1, j2⟩ := len_updL (δs m) (HS m)
            rw [q4]
            refine ⟨by omega, fun i hi b k hb => ?_⟩
            by_cases him : i = m
            · subst him; exact j2 b _ hb
            · have := i2 i (by omega) b k hb; omega
        obtain ⟨g1, g2⟩ := grow ops.size (Nat.le_refl _)
        intro b hb
        rcases hb with hb | ⟨i, hi, _, k, hk⟩
        · exact Nat.lt_of_lt_of_le hb g1
        · exact g2 i hi b k hk
      exact ⟨st.rel.monoS hS, st.fr, fun t => V.bd_mono hS _ (st.bd t), st.size, st.defers⟩
    have noneLeft : ∀ (listed : Array Bool), listed.size = ops.size → Region.ready .any ops listed = [] → ∀ i, i < ops.size → listed.getD i false = true := by
      intro listed hsz hr i
      induction i using Nat.strongRecOn with
      | _ i ih =>
        intro hi
        cases hd : listed.getD i false with
        | true => rfl
        | false =>
          exfalso
          have hun : listed.getD i true = false := by
            have : i < listed.size := by omega
            simp [this] at hd ⊢; exact hd
          have : i ∈ Region.ready .any ops listed := mem_ready.2 ⟨hun, ops[i], Array.getElem?_eq_getElem hi, fun e he hb => by
            have hmem : e.on ∈ (ops.toList.map edgesOf).getD i [] := by
              rw [List.getD_eq_getElem?_getD, List.getElem?_map, Array.getElem?_toList, Array.getElem?_eq_getElem hi]
              simp only [Option.map_some, Option.getD_some, edgesOf, List.mem_map, List.mem_filter]
              exact ⟨e, ⟨by simpa using he, hb⟩, rfl⟩
            have hlow := hI.low i (by omega) _ hmem
            exact ih e.on hlow (by omega)⟩
          rw [hr] at this; cases this
    induction fuel with
    | zero =>
      intro listed a w hsz hcnt hcl hst
      have hnil : Region.ready .any ops listed = [] := by
        cases hr : Region.ready .any ops listed with
        | nil => rfl
        | cons i is =>
          exfalso
          have hi : i ∈ Region.ready .any ops listed := by rw [hr]; simp
          obtain ⟨h1, o, ho, _⟩ := mem_ready.1 hi
          have hlt : i < ops.size := (Array.getElem?_eq_some_iff.1 ho).1
          have : i ∈ (List.range ops.size).filter fun i => !listed.getD i true := List.mem_filter.2 ⟨by simpa using hlt, by rw [h1]; rfl⟩
          rw [List.eq_nil_of_length_eq_zero (Nat.le_zero.1 hcnt)] at this; cases this
      exact ⟨hnil, last listed a w (noneLeft listed hsz hnil) hst⟩
    | succ fuel ih =>
      intro listed a w hsz hcnt hcl hst
      refine ⟨fun hnil => last listed a w (noneLeft listed hsz hnil) hst, fun i hi => ?_⟩
      obtain ⟨hun, o, ho, hpre⟩ := mem_ready.1 hi
      have hlt : i < ops.size := (Array.getElem?_eq_some_iff.1 ho).1
      obtain ⟨o', ao, q0, q1, q2, q3, q4, q5, q6, q7⟩ := recd i hlt
      rw [ho] at q0; cases q0
      have hunf : listed.getD i false = false := by
        have : i < listed.size := by omega
        simp [this] at hun ⊢; exact hun
      have hready : ∀ e ∈ (ops.toList.map edgesOf).getD i [], listed.getD e false = true := fun e he => by
        rw [List.getD_eq_getElem?_getD, List.getElem?_map, Array.getElem?_toList, ho] at he
        simp only [Option.map_some, Option.getD_some, edgesOf, List.mem_map, List.mem_filter] at he
        obtain ⟨ed, ⟨he1, he2⟩, rfl⟩ := he
        exact hpre ed (by simpa using he1) he2
      have hDn : ∀ i, listed.getD i false = true → i < fs.length := fun j hj => by
        rcases Nat.lt_or_ge j listed.size with h | h
        · omega
        · simp [Array.getElem?_eq_none h] at hj
      have hfound : ∀ l, l ∈ (⟨looksOf ops.toList o, o.dst, rds i, (δs i).map (·.1)⟩ : Foot).touch → Ab.run ws (fun i => listed.getD i false) (staOf (get fr) (hget H)) ops.size l = staOf (get (FS i)) (hget (HS i)) l := fun l hl => by
        have := found (σ := staOf (get fr) (hget H)) hI hfit hcl hDn q2 hunf hready hl
        rw [hlen] at this
        rw [this, hlex i (by omega)]
      have hstep := fun l => stepped (σ := staOf (get fr) (hget H)) hI hfit hcl q2 hunf hready l
      obtain ⟨G, st, tr⟩ := hst
      obtain ⟨fD, hD, eD⟩ := hshape (fun i => listed.getD i false) ops.size
      rw [(staOf_of eD).1, (staOf_of eD).2] at st
      rw [(staOf_of eD).2] at tr
      have hf : ∀ t, t ∈ looksOf ops.toList o → fD t = get (FS i) t := fun t htt => by
        have := hfound (.slot t) (by simp [Foot.touch, htt])
        rw [eD] at this; simpa [staOf] using this
      have hh : ∀ b, b ∈ rds i → hD b = hget (HS i) b := fun b hb => by
        have := hfound (.blk b) (by simp [Foot.touch, hb])
        rw [eD] at this; simpa [staOf] using this
      -- the state behind it
      have eD' : Ab.run ws (fun j => (listed.setIfInBounds i true).getD j false) (staOf (get fr) (hget H)) ops.size = staOf (fput o.dst (vs i) fD) (updD hD (δs i)) := by
        have e1 : ∀ j, (listed.setIfInBounds i true).getD j false = (listed.getD j false || j == i) := fun j => by
          by_cases hji : j = i
          · subst hji
            have : j < listed.size := by omega
            simp [this]
          · rw [getD_set_ne false (Ne.symm hji)]; simp [hji]
        have e2 : (fun j => (listed.setIfInBounds i true).getD j false) = fun j => listed.getD j false || j == i := funext e1
        rw [e2]
        funext l
        have := hstep l
        rw [hlen, eD, hws i o ho, wapp_wrOf] at this
        exact this.symm
      have hcl' : ∀ i' j, (listed.setIfInBounds i true).getD i' false = true → j ∈ (ops.toList.map edgesOf).getD i' [] → (listed.setIfInBounds i true).getD j false = true := fun i' j h1 h2 => by
        by_cases hii : i' = i
        · subst hii; exact getD_set_true (hready j h2)
        · rw [getD_set_ne false (Ne.symm hii)] at h1
          exact getD_set_true (hcl i' j h1 h2)
      have hcnt' : ((List.range ops.size).filter fun j => !(listed.setIfInBounds i true).getD j true).length ≤ fuel := by
        have hlt2 : ((List.range ops.size).filter fun j => !(listed.setIfInBounds i true).getD j true).length < ((List.range ops.size).filter fun j => !listed.getD j true).length := by
          have hsub : ((List.range ops.size).filter fun j => !(listed.setIfInBounds i true).getD j true) = ((List.range ops.size).filter fun j => !listed.getD j true).filter fun j => j != i := by
            rw [List.filter_filter]
            apply List.filter_congr
            intro j _
            by_cases hji : j = i
            · subst hji
              have : j < listed.size := by omega
              simp [this]
            · rw [getD_set_ne true (Ne.symm hji)]; simp [hji]
          rw [hsub]
          refine List.length_filter_lt_length_iff_exists.2 ⟨i, List.mem_filter.2 ⟨by simpa using hlt, by rw [hun]; rfl⟩, by simp⟩
        omega
      have hSD : ∀ b, SD (SDn fun i => listed.getD i false) (δs i) b → SDn (fun j => (listed.setIfInBounds i true).getD j false) b := fun b hb => by
        rcases hb with (hb | ⟨j, hj, hd, k, hk⟩) | ⟨k, hk⟩
        · exact .inl hb
        · exact .inr ⟨j, hj, getD_set_true hd, k, hk⟩
        · refine .inr ⟨i, hlt, ?_, k, hk⟩
          have : i < listed.size := by omega
          simp [this]
      have next : ∀ (u : Value) (w' : World) (G' : Gh), Gh.le (SDn fun i => listed.getD i false) G G' → Rel (SD (SDn fun i => listed.getD i false) (δs i)) G' (updD hD (δs i)) w' → Tr G hD w G' (updD hD (δs i)) w' → R G' (vs i) u → (vs i).bd (SD (SDn fun i => listed.getD i false) (δs i)) →
          wpAny P .any ops (lift N Q G0 H w0) fuel (listed.setIfInBounds i true) (a.put o.dst u) w' := by
        intro u w' G' g1 g2 g3 g4 g5
        refine ih _ _ _ (by simpa using hsz) hcnt' hcl' ⟨G', ?_, ?_⟩
        · rw [(staOf_of eD').1, (staOf_of eD').2]
          have hdN := (compOper_spec q1).2.2.1
          refine ⟨g2.monoS hSD, fun t => ?_, fun t => ?_, ?_, ?_⟩
          · cases hdst : o.dst with
            | none => simp only [fput, Act.put]; exact R_mono g1 _ _ (st.bd t) (st.fr t)
            | some d =>
              simp only [fput, Act.put]
              rw [getD_set st.size (hdN d hdst)]
              split
              · exact g4
              · exact R_mono g1 _ _ (st.bd t) (st.fr t)
          · cases hdst : o.dst with
            | none => exact V.bd_mono (fun b hb => hSD b (.inl hb)) _ (st.bd t)
            | some d =>
              simp only [fput]
              split
              · exact V.bd_mono hSD _ g5
              · exact V.bd_mono (fun b hb => hSD b (.inl hb)) _ (st.bd t)
          · cases o.dst <;> simp [Act.put, st.size]
          · cases o.dst <;> simp [Act.put, st.defers]
        · rw [(staOf_of eD').2]; exact tr.trans g3
      unfold wpOp
      simp only [ho]
      have hg : gsel ao.g fD (wts i = true) (wts i = false) := gsel_congr (fun s want hs => hf s (by
        obtain ⟨_, _, _, hgd⟩ := compOper_spec q1
        rcases hgd with ⟨_, h2⟩ | ⟨j, want', oj, s', h1, h2, h3, _, h5⟩
        · rw [h2] at hs; cases hs
        · rw [h5] at hs; cases hs
          simp only [looksOf, h1, h2, h3, List.mem_append]; right; simp)) q5
      have hwant := gsel_spec q1 st hg
      rw [show ops.toList.toArray = ops by simp] at hwant
      rcases hwant with ⟨hw, hwt⟩ | ⟨hw, hwt⟩
      · rw [if_pos hw]
        refine .inl (q6 hwt N _ G fD hD a w st (fun x hx => ?_) hh ?_ _ _ next)
        · cases x with
          | tmp t => exact hf t (by simp only [looksOf, List.mem_append]; left; exact List.mem_filterMap.2 ⟨.tmp t, hx, rfl⟩)
          | _ => rfl
        · intro hS
          rcases hS with hS | ⟨j, hj, hd, k, hk⟩
          · unfold lt at hS; omega
          · obtain ⟨oj, aoj, _, _, r2, _⟩ := recd j hj
            rcases hI.ids j _ r2 (H.length + i) (.inr (List.mem_map.2 ⟨_, hk, rfl⟩)) with h1 | h1 | ⟨m, h1, hp⟩
            · omega
            · have : i = j := by omega
              subst this; exact absurd (hunf.symm.trans hd) (by simp)
            · have : m = i := by omega
              subst this
              have := hp.closed hcl hd
              exact absurd (hunf.symm.trans this) (by simp)
      · rw [if_neg (by rw [hw]; simp)]
        obtain ⟨e1, e2, e3⟩ := q7 hwt
        refine next undef w G (Gh.le.refl _ _) ?_ ?_ (by rw [e1]; simp [R, lv, RP]) (by rw [e1]; simp [lv, V.bd])
        · rw [e3]; exact st.rel.monoS fun b hb => .inl hb
        · rw [e3]; exact Tr.refl _ _ _
  refine wp_region_any hm (main ops.size (Array.replicate ops.size false) a0 _ (by simp) ?_ ?_ ⟨G0, ?_, ?_⟩)
  · exact Nat.le_trans (List.length_filter_le _ _) (by simp)
  · intro i j h; rw [rep_false] at h; cases h
  all_goals
    have e0 : Ab.run ws (fun i => (Array.replicate ops.size false).getD i false) (staOf (get fr) (hget H)) ops.size = staOf (get fr) (hget H) := by
      have : ∀ n, Ab.run ws (fun i => (Array.replicate ops.size false).getD i false) (staOf (get fr) (hget H)) n = staOf (get fr) (hget H) := by
        intro n
        induction n with
        | zero => rfl
        | succ n ih =>
          simp only [Ab.run]
          rw [if_neg (by rw [rep_false]; simp)]; exact ih
      exact this _
  · rw [(staOf_of e0).1, (staOf_of e0).2]
    exact ⟨st0.rel.drew.monoS fun b hb => .inl hb, st0.fr, fun t => V.bd_mono (fun b hb => .inl hb) _ (st0.bd t), st0.size, st0.defers⟩
  · rw [(staOf_of e0).2]; exact (Tr.refl _ _ _).drew
end Go.Ab
/- A whole function: its compact text, its contract. -/
set_option linter.unusedVariables false
set_option linter.unusedSimpArgs false
namespace Go.Ab
open Go.RowKit

/-- n rounds at most -/
def loopN (body : Post → Fr → Hp → Prop) (Q : Post) : Nat → Fr → Hp → Prop
  | 0, _, _ => False
  | n + 1, fr, H => body (thn (fun fr H => ∃ ρ fr' H', Le ρ fr H fr' H' ∧ loopN body Q n fr' H') Q) fr H

/-- the walk over a function's compact text -/
def awp (P : Program) : AC → Post → Fr → Hp → Prop
  | .skip, Q, fr, H => Q .normal fr H
  | .reg ops, Q, fr, H => aops P ops fr H (Q .normal)
  | .dreg ops edges looks, Q, fr, H => aopsD P H.length 0 ops looks fr H [] fun tr fr' H' => indep H.length edges tr = true ∧ Q .normal fr' H'
  | .seq a b, Q, fr, H => awp P a (thn (awp P b Q) Q) fr H
  | .cond c a b, Q, fr, H => match ev (get fr) c with
    | .pv (.lit (.bool t)) => if t = true then awp P a Q fr H else awp P b Q fr H
    | _ => False
  | .block id a, Q, fr, H => awp P a (catch_ id Q) fr H
  | .loop a, Q, fr, H => ∃ ρ fr' H', Le ρ fr H fr' H' ∧ ∃ n, loopN (awp P a) Q n fr' H'
  | .exit id, Q, fr, H => Q (.exit id) fr H
  | .ret, Q, fr, H => Q .ret fr H

theorem AWp.mono {P : Program} {N : Nat} {c : Code} {Q Q' : Post} {fr : Fr} {H : Hp} (h : AWp P N c Q fr H) (hq : ∀ e fr H, Q e fr H → Q' e fr H) : AWp P N c Q' fr H :=
  fun G a w st => wp_mono (h G a w st) fun e a' w' ⟨G', fr', H', q, st', tr'⟩ => ⟨G', fr', H', hq _ _ _ q, st', tr'⟩

theorem awp_sound {P : Program} {N : Nat} (hm : P.follows .mixedOrders = true) : ∀ (c : Code) (ac : AC), compCode P N c = some ac → ∀ (Q : Post) (fr : Fr) (H : Hp), awp P ac Q fr H → AWp P N c Q fr H := by
  intro c
  induction c with
  | skip => intro ac hc Q fr H h; simp only [compCode, Option.some.injEq] at hc; subst hc; exact awp_skip h
  | region id ops draw =>
    intro ac hc Q fr H h
    simp only [compCode] at hc
    split at hc
    case h_2 => cases hc
    rename_i aos haos
    cases draw with
    | false => simp only [Bool.false_eq_true, if_false, Option.some.injEq] at hc; subst hc; exact awp_reg haos h
    | true => simp only [if_true, Option.some.injEq] at hc; subst hc; exact awp_dreg hm haos h
  | seq a b iha ihb =>
    intro ac hc Q fr H h
    simp only [compCode] at hc
    split at hc
    case h_2 => cases hc
    rename_i x y hx hy
    simp only [Option.some.injEq] at hc; subst hc
    refine awp_seq ((iha x hx _ _ _ h).mono fun e fr' H' hq => ?_)
    cases e with
    | normal => exact ihb y hy _ _ _ hq
    | _ => exact hq
  | cond c a b iha ihb =>
    intro ac hc Q fr H h
    simp only [compCode] at hc
    split at hc
    case h_2 => cases hc
    rename_i x y hx hy
    simp only [Option.some.injEq] at hc; subst hc
    simp only [awp] at h
    split at h
    case h_2 => exact h.elim
    rename_i t ht
    refine awp_cond ht (fun e => ?_) (fun e => ?_)
    · rw [if_pos e] at h; exact iha x hx _ _ _ h
    · rw [if_neg (by rw [e]; simp)] at h; exact ihb y hy _ _ _ h
  | block id a iha =>
    intro ac hc Q fr H h
    simp only [compCode] at hc
    split at hc
    case h_2 => cases hc
    rename_i x hx
    simp only [Option.some.injEq] at hc; subst hc
    exact awp_block (iha x hx _ _ _ h)
  | loop a iha =>
    intro ac hc Q fr H h
    simp only [compCode] at hc
    split at hc
    case h_2 => cases hc
    rename_i x hx
    simp only [Option.some.injEq] at hc; subst hc
    simp only [awp] at h
    obtain ⟨ρ, fr1, H1, hle, n, h⟩ := h
    intro G a0 w st
    obtain ⟨G1, st1, tr1⟩ := st.le hle
    refine wp_loop_ghost (fun n a w' => ∃ G' fr' H', loopN (awp P x) Q n fr' H' ∧ ASt N G' fr' H' a w' ∧ Tr G (hget H) w G' (hget H') w') n ⟨G1, fr1, H1, h, st1, tr1⟩ ?_
    intro n a' w' ⟨G', fr', H', hl, st', tr'⟩
    cases n with
    | zero => exact hl.elim
    | succ n =>
      refine wp_mono (iha x hx _ _ _ hl G' a' w' st') fun e a3 w3 hq => ?_
      obtain ⟨G3, fr3, H3, q, st3, tr3⟩ := hq
      cases e with
      | normal =>
        obtain ⟨ρ, fr4, H4, hle4, q4⟩ := q
        obtain ⟨G4, st4, tr4⟩ := st3.le hle4
        exact ⟨n, Nat.lt_succ_self n, G4, fr4, H4, q4, st4, (tr'.trans tr3).trans tr4⟩
      | _ => exact ⟨G3, fr3, H3, q, st3, tr'.trans tr3⟩
  | exit id => intro ac hc Q fr H h; simp only [compCode, Option.some.injEq] at hc; subst hc; exact awp_exit h
  | ret => intro ac hc Q fr H h; simp only [compCode, Option.some.injEq] at hc; subst hc; exact awp_ret h
  | _ => intro ac hc Q fr H h; simp [compCode] at hc

/-! ### results -/
inductive RV where
  | tmp (t : Nat)
  | cell (t n : Nat) (agg : Bool)
def compRes (P : Program) : List ResultVar → Option (List RV)
  | [] => some []
  | .tmp t :: rs => match compRes P rs with
    | some l => some (.tmp t :: l)
    | none => none
  | .cell a t :: rs => match isAggB P t, P.info? t, compRes P rs with
    | some g, some i, some l => if g = true ∨ i.size = 1 then some (.cell a i.size g :: l) else none
    | _, _, _ => none
def resV (fr : Fr) (H : Hp) : RV → Option V
  | .tmp t => some (get fr t)
  | .cell t n agg => match get fr t with
    | .ptr b i off => match hget H b with
      | some k => match k.xs[i]? with
        | some cs => if off + n ≤ cs.length then some (mkv agg ((cs.drop off).take n)) else none
        | none => none
      | none => none
    | _ => none
def resVs (fr : Fr) (H : Hp) : List RV → Option (List V)
  | [] => some []
  | r :: rs => match resV fr H r, resVs fr H rs with
    | some v, some vs => some (v :: vs)
    | _, _ => none
def one (ps : List PV) : PV := match ps with
  | [p] => p
  | ps => .tup ps
/-- what stands where the function returns -/
def retP (rs : List RV) (ps : List PV) (e : Exit) (fr : Fr) (H : Hp) : Prop :=
  match e with
  | .normal => ∃ vs, resVs fr H rs = some vs ∧ ∃ B, VwL (hget H) B vs ps
  | .ret => ∃ vs, resVs fr H rs = some vs ∧ ∃ B, VwL (hget H) B vs ps
  | _ => False

theorem load_block {S G h w} (r : Rel S G h w) {b i off n : Nat} {k : Blk} {cs : List V} (hk : h b = some k) (hcs : k.xs[i]? = some cs) (hle : off + n ≤ cs.length) :
    ∃ us : List Value, us.length = n ∧ (∀ (j : Nat) u, us[j]? = some u → w.cell? ((⟨G.φ b, i * G.σ b + off, none⟩ : Addr).add j) = some u) ∧ (∀ u ∈ us, u.oneCell' = true) ∧ RL G ((cs.drop off).take n) us := by
  obtain ⟨arr, e, rr⟩ := r.blk b k hk
  have hex : ∀ j, j < n → ∃ u, arr[i * k.sz + (off + j)]? = some u ∧ u.oneCell' = true ∧ R G (cs.getD (off + j) .junk) u := fun j hj => by
    obtain ⟨u, e1, e2, e3⟩ := rr.cell i (off + j) cs (cs.getD (off + j) .junk) hcs (by rw [List.getD_eq_getElem?_getD, List.getElem?_eq_getElem (by omega)]; rfl)
    exact ⟨u, e1, e2, e3⟩
  have hg : ∀ (j : Nat) u, ((List.range n).map fun j => arr.getD (i * k.sz + (off + j)) undef)[j]? = some u → j < n ∧ u = arr.getD (i * k.sz + (off + j)) undef := fun j u hu => by
    simp only [List.getElem?_map, Option.map_eq_some_iff] at hu
    obtain ⟨j', hj', rfl⟩ := hu
    have hjlt : j < n := by have := (List.getElem?_eq_some_iff.1 hj').1; simpa using this
    have : j' = j := by rw [List.getElem?_range hjlt] at hj'; simpa using hj'.symm
    subst this; exact ⟨hjlt, rfl⟩
  refine ⟨(List.range n).map fun j => arr.getD (i * k.sz + (off + j)) undef, by simp, fun j u hu => ?_, fun u hu => ?_, RL_of (by simp; omega) fun j c u h1 h2 => ?_⟩
  · obtain ⟨hj, rfl⟩ := hg j u hu
    obtain ⟨u, e1, _, _⟩ := hex j hj
    rw [add_plain', cell_arr e, ← rr.sz, show i * k.sz + off + j = i * k.sz + (off + j) by omega, e1]
    simp [e1]
  · obtain ⟨j, hj, rfl⟩ := List.mem_map.1 hu
    obtain ⟨u, e1, e2, _⟩ := hex j (by simpa using hj)
    simpa [e1] using e2
  · obtain ⟨hj, rfl⟩ := hg j u h2
    obtain ⟨u, e1, _, e3⟩ := hex j hj
    rw [List.getElem?_take, if_pos hj, List.getElem?_drop] at h1
    rw [List.getD_eq_getElem?_getD, h1] at e3
    simpa [e1] using e3

def res1 (tmps : Array Value) : ResultVar → Sem Value
  | .tmp t => pure (tmps.getD t undef)
  | .cell a t => do loadVar t (← asAddr (tmps.getD a undef))
theorem results_eq (fn : Func) (tmps : Array Value) : results fn tmps = (do
    let vs ← fn.results.mapM (res1 tmps)
    pure (if h : vs.size = 1 then vs[0] else .tuple vs)) := by
  unfold results
  congr 1
theorem results_run {P : Program} {N : Nat} {G : Gh} {fr : Fr} {H : Hp} {a : Act} {w : World} (st : ASt N G fr H a w) : ∀ (rs : List ResultVar) (l : List RV) (vs : List V), compRes P rs = some l → resVs fr H l = some vs →
    ∃ us, (rs.mapM (res1 a.tmps)).run P w = .ok us w ∧ RL G vs us
  | [], l, vs, hc, hv => by
    simp only [compRes, Option.some.injEq] at hc; subst hc
    simp only [resVs, Option.some.injEq] at hv; subst hv
    exact ⟨[], by simp, by simp [RL]⟩
  | .tmp t :: rs, l, vs, hc, hv => by
    simp only [compRes] at hc
    split at hc
    case h_2 => cases hc
    rename_i l' hl
    simp only [Option.some.injEq] at hc; subst hc
    simp only [resVs, resV] at hv
    split at hv
    case h_2 => cases hv
    rename_i v vs' h1 h2
    simp only [Option.some.injEq] at hv h1; subst hv; subst h1
    obtain ⟨us, h3, h4⟩ := results_run st rs l' vs' hl h2
    refine ⟨a.tmps.getD t undef :: us, by simp only [List.mapM_cons, Sem.run_bind, Sem.run_pure, Result.andThen_ok, h3, res1], ?_⟩
    simp only [RL]; exact ⟨_, _, rfl, st.fr t, h4⟩
  | .cell b t :: rs, l, vs, hc, hv => by
    simp only [compRes] at hc
    split at hc
    case h_2 => cases hc
    rename_i g i l' hg hi hl
    split at hc
    case isFalse => cases hc
    rename_i hcond
    simp only [Option.some.injEq] at hc; subst hc
    simp only [resVs, resV] at hv
    split at hv
    case h_2 => cases hv
    rename_i v vs' h1 h2
    simp only [Option.some.injEq] at hv; subst hv
    split at h1
    case h_2 => cases h1
    rename_i bb ii off hb
    split at h1
    case h_2 => cases h1
    rename_i k hk
    split at h1
    case h_2 => cases h1
    rename_i cs hcs
    split at h1
    case isFalse => cases h1
    rename_i hle
    simp only [Option.some.injEq] at h1; subst h1
    obtain ⟨us, h3, h4⟩ := results_run st rs l' vs' hl h2
    obtain ⟨ws, e1, e2, e3, e4⟩ := load_block st.rel hk hcs hle
    have hp := st.fr b; rw [hb] at hp; simp only [R] at hp
    have hload := run_loadAt' hg hi hcond (w := w) _ ws e1 e2
    have hr : (loadVar t ⟨G.φ bb, ii * G.σ bb + off, none⟩).run P w = .ok (mkc g ws) w := by
      simpa only [Instr.loadAt, Instr.sureAddr, Sem.run_bind, Sem.run_pure, Result.andThen_ok] using hload
    refine ⟨mkc g ws :: us, by simp only [List.mapM_cons, Sem.run_bind, Sem.run_pure, Result.andThen_ok, h3, res1, hp, asAddr, hr], ?_⟩
    simp only [RL]
    refine ⟨_, _, rfl, mkv_R e4 e3 ?_, h4⟩
    rcases hcond with hcond | hcond
    · exact .inl hcond
    · right; simp; omega

def oneV (us : List Value) : Value := match us with
  | [u] => u
  | us => .tuple us.toArray
theorem results_run' {P : Program} {fn : Func} {tmps : Array Value} {us : List Value} {w : World} (h : (fn.results.toList.mapM (res1 tmps)).run P w = .ok us w) :
    (results fn tmps).run P w = .ok (oneV us) w := by
  rw [results_eq, Array.mapM_eq_mapM_toList]
  simp only [Sem.run_bind, Sem.run_map, h, Result.andThen_ok, Sem.run_pure]
  match us with
  | [] => rfl
  | [u] => rfl
  | u :: v :: us => rfl

theorem RPL_one {I : Imm} {ps : List PV} {us : List Value} (h : RPL I ps us) : RP I (one ps) (oneV us) := by
  match ps, us, h with
  | [], us, h => simp only [RPL] at h; subst h; simp only [one, RP]; exact ⟨#[], rfl, by simp [RPL]⟩
  | [p], us, h =>
    simp only [RPL] at h
    obtain ⟨u, us', rfl, h1, rfl⟩ := h
    exact h1
  | p :: q :: ps, us, h =>
    have h' := h
    simp only [RPL] at h
    obtain ⟨u, us', rfl, h1, v, us'', rfl, h2, h3⟩ := h
    simp only [one, RP]
    exact ⟨_, rfl, h'⟩

def argFr : Nat → List PV → Fr
  | _, [] => []
  | i, p :: ps => (i, .pv p) :: argFr (i + 1) ps
theorem argFr_get : ∀ (ps : List PV) (i t : Nat), get (argFr i ps) t = .junk ∨ ∃ p, i ≤ t ∧ ps[t - i]? = some p ∧ get (argFr i ps) t = .pv p
  | [], i, t => .inl rfl
  | p :: ps, i, t => by
    simp only [argFr, get]
    split
    · rename_i h; subst h; exact .inr ⟨p, Nat.le_refl _, by simp, rfl⟩
    · rename_i h
      rcases argFr_get ps (i + 1) t with h1 | ⟨q, h1, h2, h3⟩
      · exact .inl h1
      · refine .inr ⟨q, by omega, ?_, h3⟩
        rw [show t - i = (t - (i + 1)) + 1 by omega]; simpa using h2

/-- the function, once for all its calls -/
structure Fun (P : Program) (f : FuncId) (N : Nat) (ac : AC) (rs : List RV) : Prop where
  hm : P.follows .mixedOrders = true
  ex : ∃ fn c, P.funcs[f]? = some fn ∧ fn.body = some c ∧ (fn.name == "runtime.NumGoroutine") = false ∧ fn.ntmps = N ∧ compCode P N c = some ac ∧ compRes P fn.results.toList = some rs

/-- how a function is shown to keep its contract -/
theorem PCall.intro {P : Program} {f : FuncId} {N : Nat} {ac : AC} {rs : List RV} (hf : Fun P f N ac rs) {args ps : List PV} (hN : args.length ≤ N) (h : awp P ac (retP rs ps) (argFr 0 args) []) : PCall P f args (one ps) := by
  obtain ⟨fn, c, h1, h2, h3, h4, h5, h6⟩ := hf.ex
  refine ⟨⟨fn, h1, by rw [h2]; rfl, h3⟩, fun I w us hI hus => ?_⟩
  refine calls_of_wp h1 h2 ?_
  have hlen : us.length = args.length := RPL_length hus
  have hW := awp_sound hf.hm c ac h5 _ _ _ h
  let G : Gh := { φ := fun _ => 0, κ := fun _ => 0, σ := fun _ => 0, I := I }
  have st : ASt N G (argFr 0 args) [] { tmps := us.toArray ++ Array.replicate (fn.ntmps - us.toArray.size) undef, defers := [] } w := by
    refine ⟨⟨hI, fun b k e => by simp [hget] at e, fun b b' k k' e => by simp [hget] at e, fun b k e => by simp [hget] at e, fun b k e => by simp [hget] at e, fun b k e => by simp [hget] at e⟩, fun t => ?_, fun t => ?_, ?_, rfl⟩
    · rcases argFr_get args 0 t with h | ⟨p, _, hp, h⟩
      · rw [h]; simp [R]
      · rw [h]
        obtain ⟨u, e1, e2⟩ := RPL_get hus t p (by simpa using hp)
        have htl : t < us.length := (List.getElem?_eq_some_iff.1 e1).1
        have : (us.toArray ++ Array.replicate (fn.ntmps - us.toArray.size) undef).getD t undef = u := by
          rw [Array.getD_eq_getD_getElem?, Array.getElem?_append_left (by simpa using htl)]
          simp [e1]
        rw [this]
        simp only [R]; exact e2
    · rcases argFr_get args 0 t with h | ⟨p, _, hp, h⟩
      · rw [h]; simp [V.bd]
      · rw [h]; simp [V.bd]
    · simp; omega
  refine wp_mono (hW G _ w st) fun e a' w' ⟨G', fr', H', hq, st', tr'⟩ => ?_
  have fin : (∃ vs, resVs fr' H' rs = some vs ∧ ∃ B, VwL (hget H') B vs ps) → a'.defers = [] ∧ ∃ v, (results fn a'.tmps).run P w' = .ok v w' ∧
      ∃ u J, Ending.returned v = .returned u ∧ I.le J ∧ (∀ a v, J a = some v → a.block < w.heap.size → I a = some v) ∧ ImmOk J w' ∧ RP J (one ps) u ∧ Below w.heap.size w w' := by
    rintro ⟨vs, hvs, B, hB⟩
    obtain ⟨us', hr, hR⟩ := results_run st' fn.results.toList rs vs h6 hvs
    have hR' := VwL_R st'.rel hB hR
    refine ⟨st'.defers, _, results_run' hr, _, lend G' (hget H') B w', rfl, tr'.I.trans lend_le, fun a v e hlt => ?_, lend_ok st'.rel, RPL_one hR', ⟨tr'.os, tr'.tape, tr'.output, tr'.size, fun k hk => tr'.old k hk fun b blk e => by simp [hget] at e⟩⟩
    rcases lend_spec e with e1 | ⟨b, k, _, hk, e1⟩
    · rcases tr'.inew a v e1 hlt with e2 | ⟨b, blk, e2, _⟩
      · exact e2
      · simp [hget] at e2
    · obtain ⟨b0, blk0, e2, _⟩ := tr'.lives b k hk (by rw [← e1]; exact hlt)
      simp [hget] at e2
  cases e with
  | normal => exact fin hq
  | ret => exact fin hq
  | _ => exact hq.elim
end Go.Ab
