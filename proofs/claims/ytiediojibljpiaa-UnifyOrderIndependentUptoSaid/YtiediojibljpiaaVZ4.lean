/- Z4: joined from Zb5 Zb6. -/
import Derived.Test.YtiediojibljpiaaVZ2
import Derived.Test.YtiediojibljpiaaVZ3
/- Regions that draw their order and write objects: places and what they hold (as Bb15; the objects are one place more). -/
set_option linter.unusedVariables false
set_option linter.unusedSimpArgs false
namespace Go.Ab.OD
open Go.RowKit Go.Ab

/-! ### places and what they hold -/
inductive Loc where
  | slot (t : Nat)
  | blk (b : Nat)
  | os
  deriving DecidableEq
inductive Cnt where
  | v (x : V)
  | k (x : Option Blk)
  | o (x : OS)
abbrev Sta := Loc → Cnt
abbrev Wr := List (Loc × Cnt)
def wapp (σ : Sta) : Wr → Sta
  | [] => σ
  | (l, c) :: w => wapp (fun x => if x = l then c else σ x) w
def wkeys (w : Wr) : List Loc := w.map (·.1)
theorem wapp_not {w : Wr} {l : Loc} : ∀ {σ : Sta}, l ∉ wkeys w → wapp σ w l = σ l := by
  induction w with
  | nil => intro σ _; rfl
  | cons x w ih =>
    intro σ h
    simp only [wkeys, List.map_cons, List.mem_cons, not_or] at h
    rw [wapp, ih (by simpa [wkeys] using h.2)]
    simp [h.1]
theorem wapp_key {w : Wr} {l : Loc} : ∀ {σ σ' : Sta}, l ∈ wkeys w → wapp σ w l = wapp σ' w l := by
  induction w with
  | nil => intro σ σ' h; simp [wkeys] at h
  | cons x w ih =>
    intro σ σ' h
    rw [wapp, wapp]
    by_cases hw : l ∈ wkeys w
    · exact ih hw
    · rw [wapp_not hw, wapp_not hw]
      simp only [wkeys, List.map_cons, List.mem_cons] at h
      rcases h with h | h
      · simp [h]
      · exact absurd (by simpa [wkeys] using h) hw
theorem wapp_congr {w : Wr} {σ σ' : Sta} {l : Loc} (h : σ l = σ' l) : wapp σ w l = wapp σ' w l := by
  by_cases hw : l ∈ wkeys w
  · exact wapp_key hw
  · rw [wapp_not hw, wapp_not hw, h]

/-- the writes ws, those whose number is in D, one after the other -/
def run (ws : Nat → Wr) (D : Nat → Bool) (σ : Sta) : Nat → Sta
  | 0 => σ
  | n + 1 => if D n then wapp (run ws D σ n) (ws n) else run ws D σ n
/-- two sets of numbers that have the same writers of a place -/
theorem run_same {ws : Nat → Wr} {D D' : Nat → Bool} {σ : Sta} {l : Loc} : ∀ (n : Nat), (∀ j, j < n → l ∈ wkeys (ws j) → D j = D' j) → run ws D σ n l = run ws D' σ n l
  | 0, _ => rfl
  | n + 1, h => by
    have ih := run_same (σ := σ) n fun j hj => h j (by omega)
    simp only [run]
    by_cases hl : l ∈ wkeys (ws n)
    · rw [h n (by omega) hl]
      split
      · exact wapp_key hl
      · exact ih
    · split <;> split <;> first | exact wapp_congr ih | (rw [wapp_not hl]; exact ih) | (rw [ih, wapp_not hl]) | exact ih
/-- behind the last writer nothing turns -/
theorem run_stop {ws : Nat → Wr} {D : Nat → Bool} {σ : Sta} {l : Loc} {i : Nat} : ∀ (n : Nat), i ≤ n → (∀ j, i ≤ j → j < n → D j = true → l ∉ wkeys (ws j)) → run ws D σ n l = run ws D σ i l
  | 0, h, _ => by have : i = 0 := by omega
                  subst this; rfl
  | n + 1, h, hn => by
    by_cases he : i = n + 1
    · subst he; rfl
    · simp only [run]
      split
      · rename_i hd
        rw [wapp_not (hn n (by omega) (by omega) hd)]; exact run_stop n (by omega) fun j h1 h2 => hn j h1 (by omega)
      · exact run_stop n (by omega) fun j h1 h2 => hn j h1 (by omega)
theorem run_le {ws : Nat → Wr} {D D' : Nat → Bool} {σ : Sta} {i : Nat} (n : Nat) (h : ∀ j, j < i → D j = D' j) : run ws D σ i = run ws D' σ i := by
  induction i with
  | zero => rfl
  | succ i ih => simp only [run]; rw [ih fun j hj => h j (by omega), h i (by omega)]

/-! ### the check -/
/-- which operations come ahead of each, by the edges -/
def clos : List (List Nat) → List (List Nat) → List (List Nat)
  | [], acc => acc
  | es :: rest, acc => clos rest (acc ++ [es ++ es.flatMap fun e => acc.getD e []])
structure Foot where
  looks : List Nat
  dst : Option Nat
  rd : List Nat
  wr : List Nat
  ob : Bool
def Foot.keys (x : Foot) : List Loc := (match x.dst with | some d => [Loc.slot d] | none => []) ++ x.wr.map .blk ++ (if x.ob then [.os] else [])
def Foot.touch (x : Foot) : List Loc := x.looks.map .slot ++ x.rd.map .blk ++ x.keys
def clash (x y : Foot) : Bool := x.keys.any (fun l => y.touch.contains l) || y.keys.any (fun l => x.touch.contains l)
/-- is j ahead of i, by the edges -/
def ahead (cl : List (List Nat)) (j i : Nat) : Bool := (cl.getD i []).contains j
def indep (base : Nat) (edges : List (List Nat)) (fs : List Foot) : Bool :=
  let cl := clos edges []
  edges.length == fs.length &&
  (List.range fs.length).all fun i => match fs[i]? with
    | none => false
    | some x => (edges.getD i []).all (fun e => decide (e < i)) && (x.rd ++ x.wr).all (fun b => decide (b < base) || b == base + i || (decide (base ≤ b) && ahead cl (b - base) i)) &&
      (List.range i).all fun j => match fs[j]? with
        | none => false
        | some y => !clash y x || ahead cl j i

/-- j comes ahead of i -/
inductive Path (edges : List (List Nat)) : Nat → Nat → Prop
  | edge (j i : Nat) : j ∈ edges.getD i [] → Path edges j i
  | step (j k i : Nat) : Path edges j k → k ∈ edges.getD i [] → Path edges j i
theorem clos_spec (edges : List (List Nat)) : ∀ (rest acc : List (List Nat)), edges = edges.take acc.length ++ rest → acc.length ≤ edges.length → (∀ i j, j ∈ acc.getD i [] → Path edges j i) → ∀ i j, j ∈ (clos rest acc).getD i [] → Path edges j i
  | [], acc, _, _, h, i, j, hj => h i j (by simpa [clos] using hj)
  | es :: rest, acc, he, hl, h, i, j, hj => by
    rw [clos] at hj
    have hes : edges[acc.length]? = some es := by
      rw [he, List.getElem?_append_right (by rw [List.length_take]; omega), List.length_take, Nat.min_eq_left hl]; simp
    have hlt : acc.length < edges.length := (List.getElem?_eq_some_iff.1 hes).1
    refine clos_spec edges rest _ ?_ ?_ ?_ i j hj
    · rw [List.length_append, List.length_singleton, List.take_succ_eq_append_getElem hlt, List.append_assoc]
      have : edges[acc.length] = es := by rw [List.getElem?_eq_getElem hlt] at hes; exact Option.some.inj hes
      rw [this]; exact he
    · simp; omega
    · intro i j hj
      rw [List.getD_eq_getElem?_getD, List.getElem?_append] at hj
      split at hj
      · exact h i j (by rw [List.getD_eq_getElem?_getD]; exact hj)
      · rename_i hge
        by_cases hi : i = acc.length
        · subst hi
          simp only [Nat.sub_self, List.getElem?_cons_zero, Option.getD_some, List.mem_append, List.mem_flatMap] at hj
          have hed : edges.getD acc.length [] = es := by rw [List.getD_eq_getElem?_getD, hes]; rfl
          rcases hj with hj | ⟨e, he', hj⟩
          · exact .edge j _ (by rw [hed]; exact hj)
          · exact .step j e _ (h e j hj) (by rw [hed]; exact he')
        · rw [List.getElem?_eq_none (by simp; omega)] at hj
          simp at hj
theorem ahead_spec {edges : List (List Nat)} {j i : Nat} (h : ahead (clos edges []) j i = true) : Path edges j i := by
  refine clos_spec edges edges [] (by simp) (Nat.zero_le _) (by simp) i j ?_
  simpa [ahead] using h
theorem Path.done {edges : List (List Nat)} {D : Nat → Bool} (hD : ∀ i j, D i = true → j ∈ edges.getD i [] → D j = true) {j i : Nat} (p : Path edges j i) : (∀ e ∈ edges.getD i [], D e = true) → D j = true := by
  induction p with
  | edge i h => exact fun he => he j h
  | step k i p hk ih => exact fun he => ih fun e hke => hD k e (he k hk) hke
theorem Path.closed {edges : List (List Nat)} {D : Nat → Bool} (hD : ∀ i j, D i = true → j ∈ edges.getD i [] → D j = true) {j i : Nat} (p : Path edges j i) (hi : D i = true) : D j = true :=
  p.done hD fun e he => hD i e hi he

/-- what the check gives -/
structure Ind (base : Nat) (edges : List (List Nat)) (fs : List Foot) : Prop where
  len : edges.length = fs.length
  low : ∀ i, i < fs.length → ∀ e ∈ edges.getD i [], e < i
  ids : ∀ (i : Nat) x, fs[i]? = some x → ∀ b, b ∈ x.rd ∨ b ∈ x.wr → b < base ∨ b = base + i ∨ ∃ j, b = base + j ∧ Path edges j i
  ord : ∀ (i j : Nat) x y, fs[i]? = some x → fs[j]? = some y → j < i → (∃ l, (l ∈ y.keys ∧ l ∈ x.touch) ∨ (l ∈ x.keys ∧ l ∈ y.touch)) → Path edges j i
theorem indep_spec {base : Nat} {edges : List (List Nat)} {fs : List Foot} (h : indep base edges fs = true) : Ind base edges fs := by
  unfold indep at h
  simp only [Bool.and_eq_true, beq_iff_eq, List.all_eq_true, List.mem_range] at h
  obtain ⟨h1, h2⟩ := h
  refine ⟨h1, fun i hi e he => ?_, fun i x hx b hb => ?_, fun i j x y hx hy hj hl => ?_⟩
  · have := h2 i hi
    rw [List.getElem?_eq_getElem hi] at this
    simp only [Bool.and_eq_true, List.all_eq_true, decide_eq_true_eq] at this
    exact this.1.1 e he
  · have hi : i < fs.length := (List.getElem?_eq_some_iff.1 hx).1
    have := h2 i hi
    rw [hx] at this
    simp only [Bool.and_eq_true, List.all_eq_true, Bool.or_eq_true, decide_eq_true_eq, beq_iff_eq] at this
    rcases this.1.2 b (by simpa using hb) with (h3 | h3) | ⟨h3, h4⟩
    · exact .inl h3
    · exact .inr (.inl h3)
    · exact .inr (.inr ⟨b - base, by omega, ahead_spec h4⟩)
  · have hi : i < fs.length := (List.getElem?_eq_some_iff.1 hx).1
    have := h2 i hi
    rw [hx] at this
    simp only [Bool.and_eq_true, List.all_eq_true, List.mem_range] at this
    have := this.2 j hj
    rw [hy] at this
    simp only [Bool.or_eq_true, Bool.not_eq_true'] at this
    rcases this with h3 | h3
    · exfalso
      obtain ⟨l, ⟨h4, h5⟩ | ⟨h4, h5⟩⟩ := hl
      · have : clash y x = true := by
          unfold clash; rw [Bool.or_eq_true]; left
          exact List.any_eq_true.2 ⟨l, h4, by simpa using h5⟩
        rw [this] at h3; cases h3
      · have : clash y x = true := by
          unfold clash; rw [Bool.or_eq_true]; right
          exact List.any_eq_true.2 ⟨l, h4, by simpa using h5⟩
        rw [this] at h3; cases h3
    · exact ahead_spec h3

/-! ### an operation that may come up finds what it found in the order of the text -/
section
variable {base : Nat} {edges : List (List Nat)} {fs : List Foot} {ws : Nat → Wr} {σ : Sta} {D : Nat → Bool}
/-- writes and footprints belong together -/
def Fits (fs : List Foot) (ws : Nat → Wr) : Prop := ∀ (i : Nat) x, fs[i]? = some x → ∀ l, l ∈ wkeys (ws i) ↔ l ∈ x.keys
theorem found (hi : Ind base edges fs) (hw : Fits fs ws) (hD : ∀ i j, D i = true → j ∈ edges.getD i [] → D j = true) (hDn : ∀ i, D i = true → i < fs.length) {i : Nat} {x : Foot} (hx : fs[i]? = some x)
    (hun : D i = false) (hready : ∀ e ∈ edges.getD i [], D e = true) {l : Loc} (hl : l ∈ x.touch) : run ws D σ fs.length l = run ws (fun _ => true) σ i l := by
  have hilt : i < fs.length := (List.getElem?_eq_some_iff.1 hx).1
  have key : ∀ j, j < fs.length → l ∈ wkeys (ws j) → (D j = true ↔ j < i) := fun j hj hlj => by
    have hy := List.getElem?_eq_getElem hj
    have hlk := (hw j _ hy l).1 hlj
    rcases Nat.lt_trichotomy j i with h | h | h
    · exact ⟨fun _ => h, fun _ => (hi.ord i j x _ hx hy h ⟨l, .inl ⟨hlk, hl⟩⟩).done hD hready⟩
    · subst h; rw [hun]; simp
    · refine ⟨fun hd => ?_, fun h' => by omega⟩
      have := (hi.ord j i _ x hy hx h ⟨l, .inr ⟨hlk, hl⟩⟩).closed hD hd
      rw [hun] at this; cases this
  rw [run_stop (i := i) fs.length (by omega) fun j h1 h2 hd hlj => by have := (key j h2 hlj).1 hd; omega]
  exact run_same i fun j hj hlj => by
    have := (key j (by omega) hlj).2 hj
    rw [this]
theorem stepped (hi : Ind base edges fs) (hw : Fits fs ws) (hD : ∀ i j, D i = true → j ∈ edges.getD i [] → D j = true) {i : Nat} {x : Foot} (hx : fs[i]? = some x)
    (hun : D i = false) (hready : ∀ e ∈ edges.getD i [], D e = true) (l : Loc) : wapp (run ws D σ fs.length) (ws i) l = run ws (fun j => D j || j == i) σ fs.length l := by
  have hilt : i < fs.length := (List.getElem?_eq_some_iff.1 hx).1
  by_cases hl : l ∈ wkeys (ws i)
  · have hlx : l ∈ x.keys := (hw i x hx l).1 hl
    have hlt : l ∈ x.touch := by simp only [Foot.touch, List.mem_append]; exact .inr hlx
    rw [run_stop (D := fun j => D j || j == i) (i := i + 1) fs.length (by omega) fun j h1 h2 hd hlj => ?_]
    · simp only [run, beq_self_eq_true, Bool.or_true, if_true]
      exact wapp_key hl
    · have hy := List.getElem?_eq_getElem h2
      have hlk := (hw j _ hy l).1 hlj
      have hdj : D j = true := by
        simp only [Bool.or_eq_true, beq_iff_eq] at hd
        rcases hd with hd | hd
        · exact hd
        · omega
      have := (hi.ord j i _ x hy hx (by omega) ⟨l, .inr ⟨hlk, hlt⟩⟩).closed hD hdj
      rw [hun] at this; cases this
  · rw [wapp_not hl]
    exact run_same fs.length fun j hj hlj => by
      have : j ≠ i := by rintro rfl; exact hl hlj
      simp [this]
end
end Go.Ab.OD
/- Regions that draw their order and write objects (as Bb16). -/
set_option linter.unusedVariables false
set_option linter.unusedSimpArgs false
namespace Go.Ab.OD
open Go.RowKit Go.Ab

/-- operations in the order of the text, what each touches written down -/
def aopsDO (P : Program) (base : Nat) : Nat → List AOp → List (List Nat) → Fr → Hp → OS → List Foot → (List Foot → Fr → Hp → OS → Prop) → Prop
  | _, [], _, fr, H, O, tr, K => K tr fr H O
  | i, o :: os, lks, fr, H, O, tr, K => gsel o.g (get fr)
      ((AXo P o.op (base + i) (get fr) (hget H) fun v rd δ => aopsDO P base (i + 1) os lks.tail (put o.dst v fr) (updL H δ) O (tr ++ [⟨lks.headD [], o.dst, rd, δ.map (·.1), false⟩]) K) ∨
        (∃ v O', (OX P o.op (get fr) O fun v' O'' => v' = v ∧ O'' = O') ∧ aopsDO P base (i + 1) os lks.tail (put o.dst v fr) H O' (tr ++ [⟨lks.headD [], o.dst, [], [], true⟩]) K))
      (aopsDO P base (i + 1) os lks.tail (put o.dst (lv undef) fr) H O (tr ++ [⟨lks.headD [], o.dst, [], [], false⟩]) K)

/-- what the walk in the order of the text has found -/
structure Trc (P : Program) (N base i : Nat) (ops l : List Oper) (lks : List (List Nat)) (fr : Fr) (H : Hp) (O : OS) (vs : Nat → V) (rds : Nat → List Nat) (δs : Nat → List (Nat × Option Blk)) (oss : Nat → Option OS) (wts : Nat → Bool) (FS : Nat → Fr) (HS : Nat → Hp) (OO : Nat → OS) (fs : List Foot) : Prop where
  f0 : FS 0 = fr
  h0 : HS 0 = H
  o0 : OO 0 = O
  len : fs.length = l.length
  at_ : ∀ (m : Nat) o, l[m]? = some o → ∃ ao, compOper P N ops o = some ao ∧ fs[m]? = some ⟨lks.getD m [], o.dst, rds m, (δs m).map (·.1), (oss m).isSome⟩ ∧ FS (m + 1) = put o.dst (vs m) (FS m) ∧ HS (m + 1) = updL (HS m) (δs m) ∧ OO (m + 1) = (oss m).getD (OO m) ∧
    gsel ao.g (get (FS m)) (wts m = true) (wts m = false) ∧ (wts m = true → (oss m = none ∧ Stp P o (base + (i + m)) (get (FS m)) (hget (HS m)) (vs m) (rds m) (δs m)) ∨
      (∃ O', oss m = some O' ∧ rds m = [] ∧ δs m = [] ∧ OX P ao.op (get (FS m)) (OO m) fun v' O'' => v' = vs m ∧ O'' = O')) ∧ (wts m = false → vs m = lv undef ∧ rds m = [] ∧ δs m = [] ∧ oss m = none)

theorem trace {P : Program} {N base : Nat} {ops : List Oper} {K : List Foot → Fr → Hp → OS → Prop} : ∀ (l : List Oper) (aos : List AOp) (lks : List (List Nat)) (fr : Fr) (H : Hp) (O : OS) (i : Nat) (tr : List Foot), compOps P N ops l = some aos →
    aopsDO P base i aos lks fr H O tr K → ∃ vs rds δs oss wts FS HS OO fs, Trc P N base i ops l lks fr H O vs rds δs oss wts FS HS OO fs ∧ K (tr ++ fs) (FS l.length) (HS l.length) (OO l.length)
  | [], aos, lks, fr, H, O, i, tr, hc, hA => by
    simp only [compOps, Option.some.injEq] at hc; subst hc
    exact ⟨fun _ => .junk, fun _ => [], fun _ => [], fun _ => none, fun _ => false, fun _ => fr, fun _ => H, fun _ => O, [], ⟨rfl, rfl, rfl, rfl, by simp⟩, by simpa [aopsDO] using hA⟩
  | o :: l, aos, lks, fr, H, O, i, tr, hc, hA => by
    simp only [compOps] at hc
    split at hc
    case h_2 => cases hc
    rename_i ao aos' h1 h2
    simp only [Option.some.injEq] at hc; subst hc
    obtain ⟨hop, hdst, hd, _⟩ := compOper_spec h1
    simp only [aopsDO] at hA
    have fin : ∀ (v : V) (rd : List Nat) (δ : List (Nat × Option Blk)) (ob : Option OS) (wt : Bool), aopsDO P base (i + 1) aos' lks.tail (put ao.dst v fr) (updL H δ) (ob.getD O) (tr ++ [⟨lks.headD [], ao.dst, rd, δ.map (·.1), ob.isSome⟩]) K →
        gsel ao.g (get fr) (wt = true) (wt = false) → (wt = true → (ob = none ∧ Stp P o (base + i) (get fr) (hget H) v rd δ) ∨ (∃ O', ob = some O' ∧ rd = [] ∧ δ = [] ∧ OX P ao.op (get fr) O fun v' O'' => v' = v ∧ O'' = O')) → (wt = false → v = lv undef ∧ rd = [] ∧ δ = [] ∧ ob = none) →
        ∃ vs rds δs oss wts FS HS OO fs, Trc P N base i ops (o :: l) lks fr H O vs rds δs oss wts FS HS OO fs ∧ K (tr ++ fs) (FS (o :: l).length) (HS (o :: l).length) (OO (o :: l).length) := by
      intro v rd δ ob wt hA' hg hs hu
      obtain ⟨vs, rds, δs, oss, wts, FS, HS, OO, fs, ht, hK⟩ := trace l aos' lks.tail _ _ _ (i + 1) _ h2 hA'
      refine ⟨fun m => m.casesOn v vs, fun m => m.casesOn rd rds, fun m => m.casesOn δ δs, fun m => m.casesOn ob oss, fun m => m.casesOn wt wts, fun m => m.casesOn fr FS, fun m => m.casesOn H HS, fun m => m.casesOn O OO, ⟨lks.headD [], ao.dst, rd, δ.map (·.1), ob.isSome⟩ :: fs, ⟨rfl, rfl, rfl, by simp [ht.len], fun m o' ho => ?_⟩, by simpa using hK⟩
      cases m with
      | zero =>
        simp only [List.getElem?_cons_zero, Option.some.injEq] at ho; subst ho
        refine ⟨ao, h1, ?_, ?_, ?_, ?_, hg, (fun hw => by have := hs hw; rw [show base + (i + 0) = base + i by omega]; exact this), hu⟩
        · simp only [List.getElem?_cons_zero, hdst]
          cases lks <;> rfl
        · show FS 0 = put o.dst v fr
          rw [ht.f0, hdst]
        · show HS 0 = updL H δ
          rw [ht.h0]
        · show OO 0 = ob.getD O
          rw [ht.o0]
      | succ m =>
        simp only [List.getElem?_cons_succ] at ho
        obtain ⟨ao', q1, q2, q3, q4, q8, q5, q6, q7⟩ := ht.at_ m o' ho
        refine ⟨ao', q1, ?_, q3, q4, q8, q5, fun hw => ?_, q7⟩
        · simp only [List.getElem?_cons_succ]
          rw [q2]
          cases lks <;> simp
        · have := q6 hw
          rw [show base + (i + 1 + m) = base + (i + (m + 1)) by omega] at this
          exact this
    rcases gsel_split hA with ⟨hA, hg⟩ | ⟨hA, hg⟩
    · rcases hA with hA | ⟨v, O', hx, hA⟩
      · obtain ⟨v, rd, δ, hK, hδ, hstp⟩ := AXo_sound hop hA
        exact fin v rd δ none true hK (by simpa using hg) (fun _ => .inl ⟨rfl, hstp⟩) (by simp)
      · exact fin v [] [] (some O') true (by simpa [updL] using hA) (by simpa using hg) (fun _ => .inr ⟨O', rfl, rfl, rfl, hx⟩) (by simp)
    · exact fin (lv undef) [] [] none false (by simpa [updL] using hA) (by simpa using hg) (by simp) fun _ => ⟨rfl, rfl, rfl, rfl⟩

/-! ### states as places -/
def staOf (f : FV) (h : HF) (O : OS) : Sta
  | .slot t => .v (f t)
  | .blk b => .k (h b)
  | .os => .o O
def fOf (σ : Sta) : FV := fun t => match σ (.slot t) with
  | .v x => x
  | _ => .junk
def hOf (σ : Sta) : HF := fun b => match σ (.blk b) with
  | .k x => x
  | _ => none
def oOf (σ : Sta) : OS := match σ .os with
  | .o x => x
  | _ => fun _ => none
def wrO (ob : Option OS) : Wr := match ob with
  | some O' => [(Loc.os, Cnt.o O')]
  | none => []
def wrOf (d : Option Nat) (v : V) (δ : List (Nat × Option Blk)) (ob : Option OS) : Wr :=
  ((match d with | some d => [(Loc.slot d, Cnt.v v)] | none => []) ++ δ.map fun p => (Loc.blk p.1, Cnt.k p.2)) ++ wrO ob
theorem wkeys_wrOf (d : Option Nat) (v : V) (δ : List (Nat × Option Blk)) (ob : Option OS) (lk rd : List Nat) (l : Loc) : l ∈ wkeys (wrOf d v δ ob) ↔ l ∈ (⟨lk, d, rd, δ.map (·.1), ob.isSome⟩ : Foot).keys := by
  cases d <;> cases ob <;> simp [wkeys, wrOf, wrO, Foot.keys]
theorem wapp_append (w1 w2 : Wr) : ∀ σ : Sta, wapp σ (w1 ++ w2) = wapp (wapp σ w1) w2 := by
  induction w1 with
  | nil => intro σ; rfl
  | cons x w1 ih => intro σ; obtain ⟨l, c⟩ := x; exact ih _
theorem wapp_wrO (ob : Option OS) (f : FV) (h : HF) (O : OS) : wapp (staOf f h O) (wrO ob) = staOf f h (ob.getD O) := by
  cases ob with
  | none => rfl
  | some O' =>
    funext x
    cases x <;> simp [wrO, wapp, staOf]
theorem wapp_blks (O : OS) (δ : List (Nat × Option Blk)) : ∀ (σ : Sta) (f : FV) (h : HF), σ = staOf f h O → wapp σ (δ.map fun p => (Loc.blk p.1, Cnt.k p.2)) = staOf f (updD h δ) O := by
  induction δ with
  | nil => intro σ f h e; simpa [wapp, updD] using e
  | cons p δ ih =>
    intro σ f h e
    obtain ⟨b, k⟩ := p
    simp only [List.map_cons, wapp, updD]
    refine ih _ f (upd h b k) ?_
    funext x
    subst e
    cases x with
    | slot t => simp [staOf]
    | blk c =>
      by_cases hc : c = b
      · subst hc; simp [staOf, upd]
      · simp [staOf, upd, hc]
    | os => simp [staOf]
def fput (d : Option Nat) (v : V) (f : FV) : FV := match d with
  | some d => fun t => if d = t then v else f t
  | none => f
theorem get_put (d : Option Nat) (v : V) (fr : Fr) : get (put d v fr) = fput d v (get fr) := by
  cases d <;> rfl
theorem wapp_wrOf (d : Option Nat) (v : V) (δ : List (Nat × Option Blk)) (ob : Option OS) (f : FV) (h : HF) (O : OS) : wapp (staOf f h O) (wrOf d v δ ob) = staOf (fput d v f) (updD h δ) (ob.getD O) := by
  unfold wrOf
  rw [wapp_append]
  refine (congrArg (fun σ => wapp σ (wrO ob)) ?_).trans (wapp_wrO ob _ _ O)
  cases d with
  | none => exact wapp_blks O δ _ _ _ rfl
  | some d =>
    simp only [List.cons_append, List.nil_append, wapp]
    refine wapp_blks O δ _ _ _ ?_
    funext x
    cases x with
    | slot t =>
      by_cases ht : t = d
      · subst ht; simp [staOf, fput]
      · have ht2 : ¬ d = t := fun e => ht e.symm
        simp [staOf, fput, ht, ht2]
    | blk c => simp [staOf]
    | os => simp [staOf]
theorem staOf_of {σ : Sta} {f : FV} {h : HF} {O : OS} (e : σ = staOf f h O) : fOf σ = f ∧ hOf σ = h ∧ oOf σ = O := by
  subst e; exact ⟨rfl, rfl, rfl⟩

theorem rep_false (n i : Nat) : (Array.replicate n false).getD i false = false := by
  rw [Array.getD_eq_getD_getElem?, Array.getElem?_replicate]
  split <;> rfl
theorem awpO_dreg {P : Program} {N : Nat} {Q : PostO} {fr : Fr} {H : Hp} {O : OS} {id : Nat} {ops : Array Oper} {aos : List AOp} (hm : P.follows .mixedOrders = true) (hc : compOps P N ops.toList ops.toList = some aos)
    (hA : aopsDO P H.length 0 aos (ops.toList.map (looksOf ops.toList)) fr H O [] fun tr fr' H' O' => indep H.length (ops.toList.map edgesOf) tr = true ∧ Q .normal fr' H' O') : AWpO P N (.region id ops true) Q fr H O := by
  intro G0 a0 w0 st0 r0
  obtain ⟨vs, rds, δs, oss, wts, FS, HS, OO, fs, ht, hind, hQ⟩ := trace ops.toList aos _ fr H O 0 [] hc hA
  simp only [List.nil_append] at hind
  have hI := indep_spec hind
  have hlen : fs.length = ops.size := by rw [ht.len]; simp
  -- one operation's record
  have recd : ∀ i, i < ops.size → ∃ o ao, ops[i]? = some o ∧ compOper P N ops.toList o = some ao ∧ fs[i]? = some ⟨looksOf ops.toList o, o.dst, rds i, (δs i).map (·.1), (oss i).isSome⟩ ∧ FS (i + 1) = put o.dst (vs i) (FS i) ∧ HS (i + 1) = updL (HS i) (δs i) ∧ OO (i + 1) = (oss i).getD (OO i) ∧
      gsel ao.g (get (FS i)) (wts i = true) (wts i = false) ∧ (wts i = true → (oss i = none ∧ Stp P o (H.length + i) (get (FS i)) (hget (HS i)) (vs i) (rds i) (δs i)) ∨ (∃ O', oss i = some O' ∧ rds i = [] ∧ δs i = [] ∧ OX P ao.op (get (FS i)) (OO i) fun v' O'' => v' = vs i ∧ O'' = O')) ∧ (wts i = false → vs i = lv undef ∧ rds i = [] ∧ δs i = [] ∧ oss i = none) := fun i hi => by
    have ho : ops.toList[i]? = some ops[i] := by rw [Array.getElem?_toList, Array.getElem?_eq_getElem hi]
    obtain ⟨ao, q1, q2, q3, q4, q8, q5, q6, q7⟩ := ht.at_ i _ ho
    refine ⟨ops[i], ao, Array.getElem?_eq_getElem hi, q1, ?_, q3, q4, q8, q5, fun hw => by simpa using q6 hw, q7⟩
    rw [q2, List.getD_eq_getElem?_getD, List.getElem?_map, ho]; rfl
  let ws : Nat → Wr := fun i => match ops[i]? with
    | some o => wrOf o.dst (vs i) (δs i) (oss i)
    | none => []
  have hws : ∀ i o, ops[i]? = some o → ws i = wrOf o.dst (vs i) (δs i) (oss i) := fun i o ho => by simp only [ws, ho]
  have hfit : Fits fs ws := fun i x hx l => by
    have hi : i < ops.size := by rw [← hlen]; exact (List.getElem?_eq_some_iff.1 hx).1
    obtain ⟨o, ao, q0, _, q2, _⟩ := recd i hi
    rw [q2] at hx; cases hx
    rw [hws i o q0]; exact wkeys_wrOf _ _ _ _ _ _ l
  have hlex : ∀ i, i ≤ ops.size → OD.run ws (fun _ => true) (staOf (get fr) (hget H) O) i = staOf (get (FS i)) (hget (HS i)) (OO i) := by
    intro i
    induction i with
    | zero => intro _; simp only [OD.run]; rw [ht.f0, ht.h0, ht.o0]
    | succ i ih =>
      intro hi
      obtain ⟨o, ao, q0, _, _, q3, q4, q8, _⟩ := recd i (by omega)
      simp only [OD.run, if_true]
      rw [ih (by omega), hws i o q0, wapp_wrOf, q3, q4, q8, get_put, hget_updL]
  have hshape : ∀ (D : Nat → Bool) n, ∃ f h O', OD.run ws D (staOf (get fr) (hget H) O) n = staOf f h O' := by
    intro D n
    induction n with
    | zero => exact ⟨_, _, _, rfl⟩
    | succ n ih =>
      obtain ⟨f, h, O', e⟩ := ih
      simp only [OD.run]
      split
      · rw [e]
        cases ho : ops[n]? with
        | none => simp only [ws, ho]; exact ⟨f, h, O', rfl⟩
        | some o => rw [hws n o ho, wapp_wrOf]; exact ⟨_, _, _, rfl⟩
      · exact ⟨f, h, O', e⟩
  -- the state when the operations of D are done
  let SDn : (Nat → Bool) → Nat → Prop := fun D b => lt H b ∨ ∃ i, i < ops.size ∧ D i = true ∧ ∃ k, (b, some k) ∈ δs i
  have main : ∀ (fuel : Nat) (listed : Array Bool) (a : Act) (w : World), listed.size = ops.size → ((List.range ops.size).filter fun i => !listed.getD i true).length ≤ fuel →
      (∀ i j, listed.getD i false = true → j ∈ (ops.toList.map edgesOf).getD i [] → listed.getD j false = true) →
      (∃ G, St N (SDn fun i => listed.getD i false) G (fOf (OD.run ws (fun i => listed.getD i false) (staOf (get fr) (hget H) O) ops.size)) (hOf (OD.run ws (fun i => listed.getD i false) (staOf (get fr) (hget H) O) ops.size)) a w ∧
        ORel (oOf (OD.run ws (fun i => listed.getD i false) (staOf (get fr) (hget H) O) ops.size)) G (hOf (OD.run ws (fun i => listed.getD i false) (staOf (get fr) (hget H) O) ops.size)) w ∧ TrO G0 (hget H) O w0 G (hOf (OD.run ws (fun i => listed.getD i false) (staOf (get fr) (hget H) O) ops.size)) (oOf (OD.run ws (fun i => listed.getD i false) (staOf (get fr) (hget H) O) ops.size)) w) →
      wpAny P .any ops (liftO N Q G0 H O w0) fuel listed a w := by
    intro fuel
    -- when all is done
    have last : ∀ (listed : Array Bool) (a : Act) (w : World), (∀ i, i < ops.size → listed.getD i false = true) → (∃ G, St N (SDn fun i => listed.getD i false) G (fOf (OD.run ws (fun i => listed.getD i false) (staOf (get fr) (hget H) O) ops.size)) (hOf (OD.run ws (fun i => listed.getD i false) (staOf (get fr) (hget H) O) ops.size)) a w ∧
        ORel (oOf (OD.run ws (fun i => listed.getD i false) (staOf (get fr) (hget H) O) ops.size)) G (hOf (OD.run ws (fun i => listed.getD i false) (staOf (get fr) (hget H) O) ops.size)) w ∧ TrO G0 (hget H) O w0 G (hOf (OD.run ws (fun i => listed.getD i false) (staOf (get fr) (hget H) O) ops.size)) (oOf (OD.run ws (fun i => listed.getD i false) (staOf (get fr) (hget H) O) ops.size)) w) → liftO N Q G0 H O w0 .normal a w := by
      intro listed a w hall ⟨G, st, r, tr⟩
      have e : OD.run ws (fun i => listed.getD i false) (staOf (get fr) (hget H) O) ops.size = staOf (get (FS ops.size)) (hget (HS ops.size)) (OO ops.size) := by
        rw [← hlex ops.size (Nat.le_refl _)]
        exact run_le ops.size fun j hj => hall j hj
      rw [e] at st r tr
      have hl : ops.toList.length = ops.size := by simp
      rw [hl] at hQ
      refine ⟨G, FS ops.size, HS ops.size, OO ops.size, hQ, ?_, r, tr⟩
      have hS : ∀ b, SDn (fun i => listed.getD i false) b → lt (HS ops.size) b := by
        have grow : ∀ m, m ≤ ops.size → H.length ≤ (HS m).length ∧ ∀ i, i < m → ∀ b k, (b, some k) ∈ δs i → b < (HS m).length := by
          intro m
          induction m with
          | zero => intro _; rw [ht.h0]; exact ⟨Nat.le_refl _, by simp⟩
          | succ m ih =>
            intro hm'
            obtain ⟨o, ao, _, _, _, _, q4, _, _⟩ := recd m (by omega)
            obtain ⟨i1, i2⟩ := ih (by omega)
            obtain ⟨j1, j2⟩ := len_updL (δs m) (HS m)
            rw [q4]
            refine ⟨by omega, fun i hi b k hb => ?_⟩
            by_cases him : i = m
            · subst him; exact j2 b _ hb
            · have := i2 i (by omega) b k hb; omega
        obtain ⟨g1, g2⟩ := grow ops.size (Nat.le_refl _)
        intro b hb
        rcases hb with hb | ⟨i, hi, _, k, hk⟩
        · exact Nat.lt_of_lt_of_le hb g1
        · exact g2 i hi b k hk
      exact ⟨st.rel.monoS hS, st.fr, fun t => V.bd_mono hS _ (st.bd t), st.size, st.defers⟩
    have noneLeft : ∀ (listed : Array Bool), listed.size = ops.size → Region.ready .any ops listed = [] → ∀ i, i < ops.size → listed.getD i false = true := by
      intro listed hsz hr i
      induction i using Nat.strongRecOn with
      | _ i ih =>
        intro hi
        cases hd : listed.getD i false with
        | true => rfl
        | false =>
          exfalso
          have hun : listed.getD i true = false := by
            have : i < listed.size := by omega
            simp [this] at hd ⊢; exact hd
          have : i ∈ Region.ready .any ops listed := mem_ready.2 ⟨hun, ops[i], Array.getElem?_eq_getElem hi, fun e he hb => by
            have hmem : e.on ∈ (ops.toList.map edgesOf).getD i [] := by
              rw [List.getD_eq_getElem?_getD, List.getElem?_map, Array.getElem?_toList, Array.getElem?_eq_getElem hi]
              simp only [Option.map_some, Option.getD_some, edgesOf, List.mem_map, List.mem_filter]
              exact ⟨e, ⟨by simpa using he, hb⟩, rfl⟩
            have hlow := hI.low i (by omega) _ hmem
            exact ih e.on hlow (by omega)⟩
          rw [hr] at this; cases this
    induction fuel with
    | zero =>
      intro listed a w hsz hcnt hcl hst
      have hnil : Region.ready .any ops listed = [] := by
        cases hr : Region.ready .any ops listed with
        | nil => rfl
        | cons i is =>
          exfalso
          have hi : i ∈ Region.ready .any ops listed := by rw [hr]; simp
          obtain ⟨h1, o, ho, _⟩ := mem_ready.1 hi
          have hlt : i < ops.size := (Array.getElem?_eq_some_iff.1 ho).1
          have : i ∈ (List.range ops.size).filter fun i => !listed.getD i true := List.mem_filter.2 ⟨by simpa using hlt, by rw [h1]; rfl⟩
          rw [List.eq_nil_of_length_eq_zero (Nat.le_zero.1 hcnt)] at this; cases this
      exact ⟨hnil, last listed a w (noneLeft listed hsz hnil) hst⟩
    | succ fuel ih =>
      intro listed a w hsz hcnt hcl hst
      refine ⟨fun hnil => last listed a w (noneLeft listed hsz hnil) hst, fun i hi => ?_⟩
      obtain ⟨hun, o, ho, hpre⟩ := mem_ready.1 hi
      have hlt : i < ops.size := (Array.getElem?_eq_some_iff.1 ho).1
      obtain ⟨o', ao, q0, q1, q2, q3, q4, q8, q5, q6, q7⟩ := recd i hlt
      rw [ho] at q0; cases q0
      have hunf : listed.getD i false = false := by
        have : i < listed.size := by omega
        simp [this] at hun ⊢; exact hun
      have hready : ∀ e ∈ (ops.toList.map edgesOf).getD i [], listed.getD e false = true := fun e he => by
        rw [List.getD_eq_getElem?_getD, List.getElem?_map, Array.getElem?_toList, ho] at he
        simp only [Option.map_some, Option.getD_some, edgesOf, List.mem_map, List.mem_filter] at he
        obtain ⟨ed, ⟨he1, he2⟩, rfl⟩ := he
        exact hpre ed (by simpa using he1) he2
      have hDn : ∀ i, listed.getD i false = true → i < fs.length := fun j hj => by
        rcases Nat.lt_or_ge j listed.size with h | h
        · omega
        · simp [Array.getElem?_eq_none h] at hj
      have hfound : ∀ l, l ∈ (⟨looksOf ops.toList o, o.dst, rds i, (δs i).map (·.1), (oss i).isSome⟩ : Foot).touch → OD.run ws (fun i => listed.getD i false) (staOf (get fr) (hget H) O) ops.size l = staOf (get (FS i)) (hget (HS i)) (OO i) l := fun l hl => by
        have := found (σ := staOf (get fr) (hget H) O) hI hfit hcl hDn q2 hunf hready hl
        rw [hlen] at this
        rw [this, hlex i (by omega)]
      have hstep := fun l => stepped (σ := staOf (get fr) (hget H) O) hI hfit hcl q2 hunf hready l
      obtain ⟨G, st, r, tr⟩ := hst
      obtain ⟨fD, hD, OD', eD⟩ := hshape (fun i => listed.getD i false) ops.size
      rw [(staOf_of eD).1, (staOf_of eD).2.1] at st
      rw [(staOf_of eD).2.1, (staOf_of eD).2.2] at r tr
      have hf : ∀ t, t ∈ looksOf ops.toList o → fD t = get (FS i) t := fun t htt => by
        have := hfound (.slot t) (by simp [Foot.touch, htt])
        rw [eD] at this; simpa [staOf] using this
      have hh : ∀ b, b ∈ rds i → hD b = hget (HS i) b := fun b hb => by
        have := hfound (.blk b) (by simp [Foot.touch, hb])
        rw [eD] at this; simpa [staOf] using this
      have ho' : ∀ O', oss i = some O' → OD' = OO i := fun O' hO' => by
        have := hfound .os (by simp [Foot.touch, Foot.keys, hO'])
        rw [eD] at this; simpa [staOf] using this
      -- the state behind it
      have eD' : OD.run ws (fun j => (listed.setIfInBounds i true).getD j false) (staOf (get fr) (hget H) O) ops.size = staOf (fput o.dst (vs i) fD) (updD hD (δs i)) ((oss i).getD OD') := by
        have e1 : ∀ j, (listed.setIfInBounds i true).getD j false = (listed.getD j false || j == i) := fun j => by
          by_cases hji : j = i
          · subst hji
            have : j < listed.size := by omega
            simp [this]
          · rw [getD_set_ne false (Ne.symm hji)]; simp [hji]
        have e2 : (fun j => (listed.setIfInBounds i true).getD j false) = fun j => listed.getD j false || j == i := funext e1
        rw [e2]
        funext l
        have := hstep l
        rw [hlen, eD, hws i o ho, wapp_wrOf] at this
        exact this.symm
      have hcl' : ∀ i' j, (listed.setIfInBounds i true).getD i' false = true → j ∈ (ops.toList.map edgesOf).getD i' [] → (listed.setIfInBounds i true).getD j false = true := fun i' j h1 h2 => by
        by_cases hii : i' = i
        · subst hii; exact getD_set_true (hready j h2)
        · rw [getD_set_ne false (Ne.symm hii)] at h1
          exact getD_set_true (hcl i' j h1 h2)
      have hcnt' : ((List.range ops.size).filter fun j => !(listed.setIfInBounds i true).getD j true).length ≤ fuel := by
        have hlt2 : ((List.range ops.size).filter fun j => !(listed.setIfInBounds i true).getD j true).length < ((List.range ops.size).filter fun j => !listed.getD j true).length := by
          have hsub : ((List.range ops.size).filter fun j => !(listed.setIfInBounds i true).getD j true) = ((List.range ops.size).filter fun j => !listed.getD j true).filter fun j => j != i := by
            rw [List.filter_filter]
            apply List.filter_congr
            intro j _
            by_cases hji : j = i
            · subst hji
              have : j < listed.size := by omega
              simp [this]
            · rw [getD_set_ne true (Ne.symm hji)]; simp [hji]
          rw [hsub]
          refine List.length_filter_lt_length_iff_exists.2 ⟨i, List.mem_filter.2 ⟨by simpa using hlt, by rw [hun]; rfl⟩, by simp⟩
        omega
      have hSD : ∀ b, SD (SDn fun i => listed.getD i false) (δs i) b → SDn (fun j => (listed.setIfInBounds i true).getD j false) b := fun b hb => by
        rcases hb with (hb | ⟨j, hj, hd, k, hk⟩) | ⟨k, hk⟩
        · exact .inl hb
        · exact .inr ⟨j, hj, getD_set_true hd, k, hk⟩
        · refine .inr ⟨i, hlt, ?_, k, hk⟩
          have : i < listed.size := by omega
          simp [this]
      have next : ∀ (u : Value) (w' : World) (G' : Gh), Gh.le (SDn fun i => listed.getD i false) G G' → Rel (SD (SDn fun i => listed.getD i false) (δs i)) G' (updD hD (δs i)) w' → ORel ((oss i).getD OD') G' (updD hD (δs i)) w' → TrO G hD OD' w G' (updD hD (δs i)) ((oss i).getD OD') w' → R G' (vs i) u → (vs i).bd (SD (SDn fun i => listed.getD i false) (δs i)) →
          wpAny P .any ops (liftO N Q G0 H O w0) fuel (listed.setIfInBounds i true) (a.put o.dst u) w' := by
        intro u w' G' g1 g2 g6 g3 g4 g5
        refine ih _ _ _ (by simpa using hsz) hcnt' hcl' ⟨G', ?_, ?_, ?_⟩
        · rw [(staOf_of eD').1, (staOf_of eD').2.1]
          have hdN := (compOper_spec q1).2.2.1
          refine ⟨g2.monoS hSD, fun t => ?_, fun t => ?_, ?_, ?_⟩
          · cases hdst : o.dst with
            | none => simp only [fput, Act.put]; exact R_mono g1 _ _ (st.bd t) (st.fr t)
            | some d =>
              simp only [fput, Act.put]
              rw [getD_set st.size (hdN d hdst)]
              split
              · exact g4
              · exact R_mono g1 _ _ (st.bd t) (st.fr t)
          · cases hdst : o.dst with
            | none => exact V.bd_mono (fun b hb => hSD b (.inl hb)) _ (st.bd t)
            | some d =>
              simp only [fput]
              split
              · exact V.bd_mono hSD _ g5
              · exact V.bd_mono (fun b hb => hSD b (.inl hb)) _ (st.bd t)
          · cases o.dst <;> simp [Act.put, st.size]
          · cases o.dst <;> simp [Act.put, st.defers]
        · rw [(staOf_of eD').2.1, (staOf_of eD').2.2]; exact g6
        · rw [(staOf_of eD').2.1, (staOf_of eD').2.2]; exact tr.trans g3
      unfold wpOp
      simp only [ho]
      have hg : gsel ao.g fD (wts i = true) (wts i = false) := gsel_congr (fun s want hs => hf s (by
        obtain ⟨_, _, _, hgd⟩ := compOper_spec q1
        rcases hgd with ⟨_, h2⟩ | ⟨j, want', oj, s', h1, h2, h3, _, h5⟩
        · rw [h2] at hs; cases hs
        · rw [h5] at hs; cases hs
          simp only [looksOf, h1, h2, h3, List.mem_append]; right; simp)) q5
      have hwant := gsel_spec q1 st hg
      rw [show ops.toList.toArray = ops by simp] at hwant
      rcases hwant with ⟨hw, hwt⟩ | ⟨hw, hwt⟩
      · rw [if_pos hw]
        have hops : ∀ x ∈ o.op.operands.toList, ev fD x = ev (get (FS i)) x := fun x hx => by
          cases x with
          | tmp t => exact hf t (by simp only [looksOf, List.mem_append]; left; exact List.mem_filterMap.2 ⟨.tmp t, hx, rfl⟩)
          | _ => rfl
        rcases q6 hwt with ⟨ho0, hstp⟩ | ⟨O', ho1, e1, e2, hox⟩
        · refine .inl (hstp N _ G fD hD a w st hops hh ?_ _ _ fun u w' G' g1 g2 g3 g4 g5 => ?_)
          · intro hS
            rcases hS with hS | ⟨j, hj, hd, k, hk⟩
            · unfold lt at hS; omega
            · obtain ⟨oj, aoj, _, _, r2, _⟩ := recd j hj
              rcases hI.ids j _ r2 (H.length + i) (.inr (List.mem_map.2 ⟨_, hk, rfl⟩)) with h1 | h1 | ⟨m, h1, hp⟩
              · omega
              · have : i = j := by omega
                subst this; exact absurd (hunf.symm.trans hd) (by simp)
              · have : m = i := by omega
                subst this
                have := hp.closed hcl hd
                exact absurd (hunf.symm.trans this) (by simp)
          · refine next u w' G' g1 g2 ?_ ?_ g4 g5
            · rw [ho0]; exact r.step g3
            · rw [ho0]; exact g3.toO OD'
        · have hOD := ho' O' ho1
          rw [← hOD] at hox
          refine .inl (OX_sound (compOper_spec q1).1 hox st hops r fun u w' G' v O'' g0 g1 g2 g3 g4 g5 g6 => ?_)
          obtain ⟨rfl, rfl⟩ := g0
          refine next u w' G' g1 ?_ ?_ ?_ g5 ?_
          · rw [e2]; exact g2.monoS fun b hb => .inl hb
          · rw [e2, ho1]; exact g3
          · rw [e2, ho1]; exact g4
          · exact V.bd_mono (fun b hb => .inl hb) _ g6
      · rw [if_neg (by rw [hw]; simp)]
        obtain ⟨e1, e2, e3, e4⟩ := q7 hwt
        refine next undef w G (Gh.le.refl _ _) ?_ ?_ ?_ (by rw [e1]; simp [R, lv, RP]) (by rw [e1]; simp [lv, V.bd])
        · rw [e3]; exact st.rel.monoS fun b hb => .inl hb
        · rw [e3, e4]; exact r
        · rw [e3, e4]; exact TrO.refl _ _ _ _
  refine wp_region_any hm (main ops.size (Array.replicate ops.size false) a0 _ (by simp) ?_ ?_ ⟨G0, ?_, ?_, ?_⟩)
  · exact Nat.le_trans (List.length_filter_le _ _) (by simp)
  · intro i j h; rw [rep_false] at h; cases h
  all_goals
    have e0 : OD.run ws (fun i => (Array.replicate ops.size false).getD i false) (staOf (get fr) (hget H) O) ops.size = staOf (get fr) (hget H) O := by
      have : ∀ n, OD.run ws (fun i => (Array.replicate ops.size false).getD i false) (staOf (get fr) (hget H) O) n = staOf (get fr) (hget H) O := by
        intro n
        induction n with
        | zero => rfl
        | succ n ih =>
          simp only [OD.run]
          rw [if_neg (by rw [rep_false]; simp)]; exact ih
      exact this _
  · rw [(staOf_of e0).1, (staOf_of e0).2.1]
    exact ⟨st0.rel.drew.monoS fun b hb => .inl hb, st0.fr, fun t => V.bd_mono (fun b hb => .inl hb) _ (st0.bd t), st0.size, st0.defers⟩
  · rw [(staOf_of e0).2.1, (staOf_of e0).2.2]; exact r0.step (Tr.refl _ _ _).drew
  · rw [(staOf_of e0).2.1, (staOf_of e0).2.2]; exact (Tr.refl _ _ _).drew.toO O
end Go.Ab.OD
