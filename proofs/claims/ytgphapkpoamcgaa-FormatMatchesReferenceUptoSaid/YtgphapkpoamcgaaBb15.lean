/- Regions that draw their order: the order of the text serves every order, where what two operations touch lets them be exchanged. -/
import Derived.Test.YtgphapkpoamcgaaBb14
set_option linter.unusedVariables false
set_option linter.unusedSimpArgs false
namespace Go.Ab
open Go.RowKit

/-! ### places and what they hold -/
inductive Loc where
  | slot (t : Nat)
  | blk (b : Nat)
  deriving DecidableEq
inductive Cnt where
  | v (x : V)
  | k (x : Option Blk)
abbrev Sta := Loc → Cnt
abbrev Wr := List (Loc × Cnt)
def wapp (σ : Sta) : Wr → Sta
  | [] => σ
  | (l, c) :: w => wapp (fun x => if x = l then c else σ x) w
def wkeys (w : Wr) : List Loc := w.map (·.1)
theorem wapp_not {w : Wr} {l : Loc} : ∀ {σ : Sta}, l ∉ wkeys w → wapp σ w l = σ l := by
  induction w with
  | nil => intro σ _; rfl
  | cons x w ih =>
    intro σ h
    simp only [wkeys, List.map_cons, List.mem_cons, not_or] at h
    rw [wapp, ih (by simpa [wkeys] using h.2)]
    simp [h.1]
theorem wapp_key {w : Wr} {l : Loc} : ∀ {σ σ' : Sta}, l ∈ wkeys w → wapp σ w l = wapp σ' w l := by
  induction w with
  | nil => intro σ σ' h; simp [wkeys] at h
  | cons x w ih =>
    intro σ σ' h
    rw [wapp, wapp]
    by_cases hw : l ∈ wkeys w
    · exact ih hw
    · rw [wapp_not hw, wapp_not hw]
      simp only [wkeys, List.map_cons, List.mem_cons] at h
      rcases h with h | h
      · simp [h]
      · exact absurd (by simpa [wkeys] using h) hw
theorem wapp_congr {w : Wr} {σ σ' : Sta} {l : Loc} (h : σ l = σ' l) : wapp σ w l = wapp σ' w l := by
  by_cases hw : l ∈ wkeys w
  · exact wapp_key hw
  · rw [wapp_not hw, wapp_not hw, h]

/-- the writes ws, those whose number is in D, one after the other -/
def run (ws : Nat → Wr) (D : Nat → Bool) (σ : Sta) : Nat → Sta
  | 0 => σ
  | n + 1 => if D n then wapp (run ws D σ n) (ws n) else run ws D σ n
/-- two sets of numbers that have the same writers of a place -/
theorem run_same {ws : Nat → Wr} {D D' : Nat → Bool} {σ : Sta} {l : Loc} : ∀ (n : Nat), (∀ j, j < n → l ∈ wkeys (ws j) → D j = D' j) → run ws D σ n l = run ws D' σ n l
  | 0, _ => rfl
  | n + 1, h => by
    have ih := run_same (σ := σ) n fun j hj => h j (by omega)
    simp only [run]
    by_cases hl : l ∈ wkeys (ws n)
    · rw [h n (by omega) hl]
      split
      · exact wapp_key hl
      · exact ih
    · split <;> split <;> first | exact wapp_congr ih | (rw [wapp_not hl]; exact ih) | (rw [ih, wapp_not hl]) | exact ih
/-- behind the last writer nothing turns -/
theorem run_stop {ws : Nat → Wr} {D : Nat → Bool} {σ : Sta} {l : Loc} {i : Nat} : ∀ (n : Nat), i ≤ n → (∀ j, i ≤ j → j < n → D j = true → l ∉ wkeys (ws j)) → run ws D σ n l = run ws D σ i l
  | 0, h, _ => by have : i = 0 := by omega
                  subst this; rfl
  | n + 1, h, hn => by
    by_cases he : i = n + 1
    · subst he; rfl
    · simp only [run]
      split
      · rename_i hd
        rw [wapp_not (hn n (by omega) (by omega) hd)]; exact run_stop n (by omega) fun j h1 h2 => hn j h1 (by omega)
      · exact run_stop n (by omega) fun j h1 h2 => hn j h1 (by omega)
theorem run_le {ws : Nat → Wr} {D D' : Nat → Bool} {σ : Sta} {i : Nat} (n : Nat) (h : ∀ j, j < i → D j = D' j) : run ws D σ i = run ws D' σ i := by
  induction i with
  | zero => rfl
  | succ i ih => simp only [run]; rw [ih fun j hj => h j (by omega), h i (by omega)]

/-! ### the check -/
/-- which operations come ahead of each, by the edges -/
def clos : List (List Nat) → List (List Nat) → List (List Nat)
  | [], acc => acc
  | es :: rest, acc => clos rest (acc ++ [es ++ es.flatMap fun e => acc.getD e []])
structure Foot where
  looks : List Nat
  dst : Option Nat
  rd : List Nat
  wr : List Nat
def Foot.keys (x : Foot) : List Loc := (match x.dst with | some d => [Loc.slot d] | none => []) ++ x.wr.map .blk
def Foot.touch (x : Foot) : List Loc := x.looks.map .slot ++ x.rd.map .blk ++ x.keys
def clash (x y : Foot) : Bool := x.keys.any (fun l => y.touch.contains l) || y.keys.any (fun l => x.touch.contains l)
/-- is j ahead of i, by the edges -/
def ahead (cl : List (List Nat)) (j i : Nat) : Bool := (cl.getD i []).contains j
def indep (base : Nat) (edges : List (List Nat)) (fs : List Foot) : Bool :=
  let cl := clos edges []
  edges.length == fs.length &&
  (List.range fs.length).all fun i => match fs[i]? with
    | none => false
    | some x => (edges.getD i []).all (fun e => decide (e < i)) && (x.rd ++ x.wr).all (fun b => decide (b < base) || b == base + i || (decide (base ≤ b) && ahead cl (b - base) i)) &&
      (List.range i).all fun j => match fs[j]? with
        | none => false
        | some y => !clash y x || ahead cl j i

/-- j comes ahead of i -/
inductive Path (edges : List (List Nat)) : Nat → Nat → Prop
  | edge (j i : Nat) : j ∈ edges.getD i [] → Path edges j i
  | step (j k i : Nat) : Path edges j k → k ∈ edges.getD i [] → Path edges j i
theorem clos_spec (edges : List (List Nat)) : ∀ (rest acc : List (List Nat)), edges = edges.take acc.length ++ rest → acc.length ≤ edges.length → (∀ i j, j ∈ acc.getD i [] → Path edges j i) → ∀ i j, j ∈ (clos rest acc).getD i [] → Path edges j i
  | [], acc, _, _, h, i, j, hj => h i j (by simpa [clos] using hj)
  | es :: rest, acc, he, hl, h, i, j, hj => by
    rw [clos] at hj
    have hes : edges[acc.length]? = some es := by
      rw [he, List.getElem?_append_right (by rw [List.length_take]; omega), List.length_take, Nat.min_eq_left hl]; simp
    have hlt : acc.length < edges.length := (List.getElem?_eq_some_iff.1 hes).1
    refine clos_spec edges rest _ ?_ ?_ ?_ i j hj
    · rw [List.length_append, List.length_singleton, List.take_succ_eq_append_getElem hlt, List.append_assoc]
      have : edges[acc.length] = es := by rw [List.getElem?_eq_getElem hlt] at hes; exact Option.some.inj hes
      rw [this]; exact he
    · simp; omega
    · intro i j hj
      rw [List.getD_eq_getElem?_getD, List.getElem?_append] at hj
      split at hj
      · exact h i j (by rw [List.getD_eq_getElem?_getD]; exact hj)
      · rename_i hge
        by_cases hi : i = acc.length
        · subst hi
          simp only [Nat.sub_self, List.getElem?_cons_zero, Option.getD_some, List.mem_append, List.mem_flatMap] at hj
          have hed : edges.getD acc.length [] = es := by rw [List.getD_eq_getElem?_getD, hes]; rfl
          rcases hj with hj | ⟨e, he', hj⟩
          · exact .edge j _ (by rw [hed]; exact hj)
          · exact .step j e _ (h e j hj) (by rw [hed]; exact he')
        · rw [List.getElem?_eq_none (by simp; omega)] at hj
          simp at hj
theorem ahead_spec {edges : List (List Nat)} {j i : Nat} (h : ahead (clos edges []) j i = true) : Path edges j i := by
  refine clos_spec edges edges [] (by simp) (Nat.zero_le _) (by simp) i j ?_
  simpa [ahead] using h
theorem Path.done {edges : List (List Nat)} {D : Nat → Bool} (hD : ∀ i j, D i = true → j ∈ edges.getD i [] → D j = true) {j i : Nat} (p : Path edges j i) : (∀ e ∈ edges.getD i [], D e = true) → D j = true := by
  induction p with
  | edge i h => exact fun he => he j h
  | step k i p hk ih => exact fun he => ih fun e hke => hD k e (he k hk) hke
theorem Path.closed {edges : List (List Nat)} {D : Nat → Bool} (hD : ∀ i j, D i = true → j ∈ edges.getD i [] → D j = true) {j i : Nat} (p : Path edges j i) (hi : D i = true) : D j = true :=
  p.done hD fun e he => hD i e hi he

/-- what the check gives -/
structure Ind (base : Nat) (edges : List (List Nat)) (fs : List Foot) : Prop where
  len : edges.length = fs.length
  low : ∀ i, i < fs.length → ∀ e ∈ edges.getD i [], e < i
  ids : ∀ (i : Nat) x, fs[i]? = some x → ∀ b, b ∈ x.rd ∨ b ∈ x.wr → b < base ∨ b = base + i ∨ ∃ j, b = base + j ∧ Path edges j i
  ord : ∀ (i j : Nat) x y, fs[i]? = some x → fs[j]? = some y → j < i → (∃ l, (l ∈ y.keys ∧ l ∈ x.touch) ∨ (l ∈ x.keys ∧ l ∈ y.touch)) → Path edges j i
theorem indep_spec {base : Nat} {edges : List (List Nat)} {fs : List Foot} (h : indep base edges fs = true) : Ind base edges fs := by
  unfold indep at h
  simp only [Bool.and_eq_true, beq_iff_eq, List.all_eq_true, List.mem_range] at h
  obtain ⟨h1, h2⟩ := h
  refine ⟨h1, fun i hi e he => ?_, fun i x hx b hb => ?_, fun i j x y hx hy hj hl => ?_⟩
  · have := h2 i hi
    rw [List.getElem?_eq_getElem hi] at this
    simp only [Bool.and_eq_true, List.all_eq_true, decide_eq_true_eq] at this
    exact this.1.1 e he
  · have hi : i < fs.length := (List.getElem?_eq_some_iff.1 hx).1
    have := h2 i hi
    rw [hx] at this
    simp only [Bool.and_eq_true, List.all_eq_true, Bool.or_eq_true, decide_eq_true_eq, beq_iff_eq] at this
    rcases this.1.2 b (by simpa using hb) with (h3 | h3) | ⟨h3, h4⟩
    · exact .inl h3
    · exact .inr (.inl h3)
    · exact .inr (.inr ⟨b - base, by omega, ahead_spec h4⟩)
  · have hi : i < fs.length := (List.getElem?_eq_some_iff.1 hx).1
    have := h2 i hi
    rw [hx] at this
    simp only [Bool.and_eq_true, List.all_eq_true, List.mem_range] at this
    have := this.2 j hj
    rw [hy] at this
    simp only [Bool.or_eq_true, Bool.not_eq_true'] at this
    rcases this with h3 | h3
    · exfalso
      obtain ⟨l, ⟨h4, h5⟩ | ⟨h4, h5⟩⟩ := hl
      · have : clash y x = true := by
          unfold clash; rw [Bool.or_eq_true]; left
          exact List.any_eq_true.2 ⟨l, h4, by simpa using h5⟩
        rw [this] at h3; cases h3
      · have : clash y x = true := by
          unfold clash; rw [Bool.or_eq_true]; right
          exact List.any_eq_true.2 ⟨l, h4, by simpa using h5⟩
        rw [this] at h3; cases h3
    · exact ahead_spec h3

/-! ### an operation that may come up finds what it found in the order of the text -/
section
variable {base : Nat} {edges : List (List Nat)} {fs : List Foot} {ws : Nat → Wr} {σ : Sta} {D : Nat → Bool}
/-- writes and footprints belong together -/
def Fits (fs : List Foot) (ws : Nat → Wr) : Prop := ∀ (i : Nat) x, fs[i]? = some x → ∀ l, l ∈ wkeys (ws i) ↔ l ∈ x.keys
theorem found (hi : Ind base edges fs) (hw : Fits fs ws) (hD : ∀ i j, D i = true → j ∈ edges.getD i [] → D j = true) (hDn : ∀ i, D i = true → i < fs.length) {i : Nat} {x : Foot} (hx : fs[i]? = some x)
    (hun : D i = false) (hready : ∀ e ∈ edges.getD i [], D e = true) {l : Loc} (hl : l ∈ x.touch) : run ws D σ fs.length l = run ws (fun _ => true) σ i l := by
  have hilt : i < fs.length := (List.getElem?_eq_some_iff.1 hx).1
  have key : ∀ j, j < fs.length → l ∈ wkeys (ws j) → (D j = true ↔ j < i) := fun j hj hlj => by
    have hy := List.getElem?_eq_getElem hj
    have hlk := (hw j _ hy l).1 hlj
    rcases Nat.lt_trichotomy j i with h | h | h
    · exact ⟨fun _ => h, fun _ => (hi.ord i j x _ hx hy h ⟨l, .inl ⟨hlk, hl⟩⟩).done hD hready⟩
    · subst h; rw [hun]; simp
    · refine ⟨fun hd => ?_, fun h' => by omega⟩
      have := (hi.ord j i _ x hy hx h ⟨l, .inr ⟨hlk, hl⟩⟩).closed hD hd
      rw [hun] at this; cases this
  rw [run_stop (i := i) fs.length (by omega) fun j h1 h2 hd hlj => by have := (key j h2 hlj).1 hd; omega]
  exact run_same i fun j hj hlj => by
    have := (key j (by omega) hlj).2 hj
    rw [this]
theorem stepped (hi : Ind base edges fs) (hw : Fits fs ws) (hD : ∀ i j, D i = true → j ∈ edges.getD i [] → D j = true) {i : Nat} {x : Foot} (hx : fs[i]? = some x)
    (hun : D i = false) (hready : ∀ e ∈ edges.getD i [], D e = true) (l : Loc) : wapp (run ws D σ fs.length) (ws i) l = run ws (fun j => D j || j == i) σ fs.length l := by
  have hilt : i < fs.length := (List.getElem?_eq_some_iff.1 hx).1
  by_cases hl : l ∈ wkeys (ws i)
  · have hlx : l ∈ x.keys := (hw i x hx l).1 hl
    have hlt : l ∈ x.touch := by simp only [Foot.touch, List.mem_append]; exact .inr hlx
    rw [run_stop (D := fun j => D j || j == i) (i := i + 1) fs.length (by omega) fun j h1 h2 hd hlj => ?_]
    · simp only [run, beq_self_eq_true, Bool.or_true, if_true]
      exact wapp_key hl
    · have hy := List.getElem?_eq_getElem h2
      have hlk := (hw j _ hy l).1 hlj
      have hdj : D j = true := by
        simp only [Bool.or_eq_true, beq_iff_eq] at hd
        rcases hd with hd | hd
        · exact hd
        · omega
      have := (hi.ord j i _ x hy hx (by omega) ⟨l, .inr ⟨hlk, hlt⟩⟩).closed hD hdj
      rw [hun] at this; cases this
  · rw [wapp_not hl]
    exact run_same fs.length fun j hj hlj => by
      have : j ≠ i := by rintro rfl; exact hl hlj
      simp [this]
end
end Go.Ab
