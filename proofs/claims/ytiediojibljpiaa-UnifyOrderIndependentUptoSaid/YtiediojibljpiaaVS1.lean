/- S1: joined from LB ZS1. -/
import Derived.Test.YtiediojibljpiaaVFnU
import Derived.Shelf.Small.Wraps
import Derived.Shelf.SlSortCmp.WholeK
import Derived.Test.YtiediojibljpiaaProg
import Derived.Test.YtiediojibljpiaaVB8
/- Contracts of the library, laid at this program (printed by the shelf). -/
namespace Go.Proofs.Ytiediojibljpiaa
open Go.Shelf
def sortB_ren : Go.Shelf.Ren := ⟨fun | 6 => 36 | 15 => 65 | 14 => 64 | 28 => 82 | 29 => 83 | 20 => 74 | 21 => 75 | 22 => 76 | 23 => 77 | 24 => 78 | 25 => 79 | 26 => 80 | 27 => 81 | 46 => 87 | 47 => 88 | 48 => 89 | 49 => 90 | 50 => 91 | 57 => 93 | n => n, fun | 22 => 24 | 24 => 42 | 25 => 65 | 3 => 3 | 39 => 85 | 0 => 0 | 53 => 101 | 55 => 103 | 4 => 4 | 46 => 94 | 45 => 93 | 50 => 98 | 5 => 5 | 9 => 9 | 66 => 108 | 70 => 112 | 76 => 114 | 77 => 66 | n => n, fun | n => n⟩
theorem sortB : Go.Proofs.SlLaysF0.n6 Try.prog sortB_ren := {
  mixed := by kernel_rfl
  f6 := ⟨Try.f36.name, by decide, Try.func36.trans (congrArg some (by kernel_rfl))⟩
  f14 := ⟨Try.f64.name, by decide, Try.func64.trans (congrArg some (by kernel_rfl))⟩
  f15 := Try.func65.trans (congrArg some (by kernel_rfl))
  f20 := ⟨Try.f74.name, by decide, Try.func74.trans (congrArg some (by kernel_rfl))⟩
  f21 := ⟨Try.f75.name, by decide, Try.func75.trans (congrArg some (by kernel_rfl))⟩
  f22 := ⟨Try.f76.name, by decide, Try.func76.trans (congrArg some (by kernel_rfl))⟩
  f23 := ⟨Try.f77.name, by decide, Try.func77.trans (congrArg some (by kernel_rfl))⟩
  f24 := ⟨Try.f78.name, by decide, Try.func78.trans (congrArg some (by kernel_rfl))⟩
  f25 := ⟨Try.f79.name, by decide, Try.func79.trans (congrArg some (by kernel_rfl))⟩
  f26 := ⟨Try.f80.name, by decide, Try.func80.trans (congrArg some (by kernel_rfl))⟩
  f27 := ⟨Try.f81.name, by decide, Try.func81.trans (congrArg some (by kernel_rfl))⟩
  f28 := Try.func82.trans (congrArg some (by kernel_rfl))
  f29 := Try.func83.trans (congrArg some (by kernel_rfl))
  f46 := ⟨Try.f87.name, by decide, Try.func87.trans (congrArg some (by kernel_rfl))⟩
  f47 := Try.func88.trans (congrArg some (by kernel_rfl))
  f48 := Try.func89.trans (congrArg some (by kernel_rfl))
  f49 := ⟨Try.f90.name, by decide, Try.func90.trans (congrArg some (by kernel_rfl))⟩
  f50 := ⟨Try.f91.name, by decide, Try.func91.trans (congrArg some (by kernel_rfl))⟩
  f57 := ⟨Try.f93.name, by decide, Try.func93.trans (congrArg some (by kernel_rfl))⟩
  t0 := Try.underlying0
  a0 := Try.isAgg0
  z0 := Try.sizeOf0
  v0 := Try.zeroValue0
  t3 := Try.underlying3
  a3 := Try.isAgg3
  z3 := Try.sizeOf3
  v3 := Try.zeroValue3
  t4 := Try.underlying4
  a4 := Try.isAgg4
  z4 := Try.sizeOf4
  v4 := Try.zeroValue4
  t5 := Try.underlying5
  a5 := Try.isAgg5
  z5 := Try.sizeOf5
  v5 := Try.zeroValue5
  t9 := Try.underlying9
  a9 := Try.isAgg9
  z9 := Try.sizeOf9
  v9 := Try.zeroValue9
  t22 := Try.underlying24
  a22 := Try.isAgg24
  z22 := Try.sizeOf24
  v22 := Try.zeroValue24
  t25 := Try.underlying65
  a25 := Try.isAgg65
  z25 := Try.sizeOf65
  v25 := Try.zeroValue65
  t39 := Try.underlying85
  a39 := Try.isAgg85
  z39 := Try.sizeOf85
  v39 := Try.zeroValue85
  t45 := Try.underlying93
  a45 := Try.isAgg93
  z45 := Try.sizeOf93
  v45 := Try.zeroValue93
  t46 := Try.underlying94
  a46 := Try.isAgg94
  z46 := Try.sizeOf94
  v46 := Try.zeroValue94
  t50 := Try.underlying98
  a50 := Try.isAgg98
  z50 := Try.sizeOf98
  v50 := Try.zeroValue98
  t53 := Try.underlying101
  a53 := Try.isAgg101
  z53 := Try.sizeOf101
  v53 := Try.zeroValue101
  t55 := Try.underlying103
  a55 := Try.isAgg103
  z55 := Try.sizeOf103
  v55 := Try.zeroValue103
  t66 := Try.underlying108
  a66 := Try.isAgg108
  z66 := Try.sizeOf108
  v66 := Try.zeroValue108
  t70 := Try.underlying112
  a70 := Try.isAgg112
  z70 := Try.sizeOf112
  v70 := Try.zeroValue112
  t76 := Try.underlying114
  a76 := Try.isAgg114
  z76 := Try.sizeOf114
  v76 := Try.zeroValue114
  t77 := Try.underlying66
  a77 := Try.isAgg66
  z77 := Try.sizeOf66
  v77 := Try.zeroValue66 }
def lays122_ren : Go.Shelf.Ren := ⟨fun | 122 => 38 | 215 => 66 | n => n, fun | 3 => 3 | 4 => 4 | n => n, fun | n => n⟩
theorem lays122 : Go.Proofs.Lays.n122 Try.prog lays122_ren := {
  mixed := by kernel_rfl
  f122 := Try.func38.trans (congrArg some (by kernel_rfl))
  f215 := Try.func66.trans (congrArg some (by kernel_rfl))
  t3 := Try.underlying3
  a3 := Try.isAgg3
  z3 := Try.sizeOf3
  v3 := Try.zeroValue3
  t4 := Try.underlying4
  a4 := Try.isAgg4
  z4 := Try.sizeOf4
  v4 := Try.zeroValue4 }
open Go.RowKit in
/-- cmp.Compare at int. -/
theorem cmpI_ok (x y : Int) (w : World) :
    Calls Try.prog 38 #[.int .i64 x, .int .i64 y] w fun e w' => e = .returned (.int .i64 (Lib.compareInt x y)) ∧ w' = w := Any.cmp_Compare_int lays122 x y w
end Go.Proofs.Ytiediojibljpiaa
/- The comparison by variable; slices.SortFunc on a row of bindings. -/
set_option maxRecDepth 10000
set_option linter.unusedSimpArgs false
set_option linter.unusedVariables false
namespace Go.Proofs.Ytiediojibljpiaa
open Go Go.Ab Go.Sort Go.Shelf Go.RowKit Go.Lib
/-- a binding's four cells -/
structure B4 where
  v : Int
  k : Int
  i : Int
  a : Option Addr
  n : Nat
  c : Nat
instance : Inhabited B4 := ⟨⟨0, 0, 0, none, 0, 0⟩⟩
def enc4 (x : B4) : List Value := [.int .i64 x.v, .int .i64 x.k, .int .i64 x.i, .slice x.a x.n x.c]
def cf4 (x y : B4) : Int := Lib.compareInt x.v y.v
set_option maxHeartbeats 1000000 in
theorem closure37 (x y : B4) (W : World) : Calls Try.prog 37 #[.agg (enc4 x).toArray, .agg (enc4 y).toArray] W fun e w' => e = .returned (.int .i64 (cf4 x y)) ∧ ∃ q os', w' = grow (W.drewN q) os' := by
  have hcon := fun W' => cmpI_ok x.v y.v W'
  unfold cf4
  generalize Lib.compareInt x.v y.v = r at hcon ⊢
  simp only [enc4]
  go_enter Try.func37, Try.ntmps37
  go_wp2_with (go_at_call 38; refine (hcon _).mono ?_; rintro e w' ⟨rfl, rfl⟩)
  go_ret
  exact ⟨rfl, 0, _, by rw [alloc_eq_grow, alloc_eq_grow, grow_grow]; rfl⟩
theorem lt4 (x y : B4) : ltOf cf4 x y = decide (x.v < y.v) := by
  unfold ltOf cf4 Lib.compareInt
  by_cases h1 : x.v < y.v
  · simp [h1]
  · by_cases h2 : y.v < x.v <;> simp [h1, h2]
theorem swo4 : SWO (ltOf cf4) where
  irrefl x := by rw [lt4]; simp
  trans x y z h1 h2 := by rw [lt4] at *; simp at *; omega
  ntrans x y z h1 h2 := by rw [lt4] at *; simp at *; omega
inductive All2 {α β : Type} (r : α → β → Prop) : List α → List β → Prop
  | nil : All2 r [] []
  | cons {a : α} {b : β} {l : List α} {m : List β} : r a b → All2 r l m → All2 r (a :: l) (b :: m)
theorem All2.len {α β : Type} {r : α → β → Prop} {l : List α} {m : List β} (h : All2 r l m) : l.length = m.length := by
  induction h with
  | nil => rfl
  | cons _ _ ih => simp [ih]
theorem All2.at {α β : Type} {r : α → β → Prop} {l : List α} {m : List β} (h : All2 r l m) : ∀ (i : Nat) (b : β), m[i]? = some b → ∃ a, l[i]? = some a ∧ r a b := by
  induction h with
  | nil => intro i b h; simp at h
  | cons hr _ ih =>
    intro i b h
    cases i with
    | zero => simp only [List.getElem?_cons_zero, Option.some.injEq] at h; subst h; exact ⟨_, rfl, hr⟩
    | succ i => exact ih i b (by simpa using h)
theorem All2.of {α β : Type} {r : α → β → Prop} : ∀ {m : List β} {f : Nat → α}, (∀ i b, m[i]? = some b → r (f i) b) → All2 r ((List.range m.length).map f) m
  | [], f, _ => .nil
  | b :: m, f, h => by
    simp only [List.length_cons, List.range_succ_eq_map, List.map_cons, List.map_map]
    exact .cons (h 0 b rfl) (All2.of (f := f ∘ Nat.succ) fun i b hb => h (i + 1) b (by simpa using hb))
/-- lists that go together, one of them in another order -/
theorem perm_all2 {α β : Type} {r : α → β → Prop} {l l' : List α} (hp : l'.Perm l) : ∀ {m : List β}, All2 r l m → ∃ m', m'.Perm m ∧ All2 r l' m' := by
  induction hp with
  | nil => intro m h; exact ⟨m, .refl _, h⟩
  | cons x _ ih =>
    intro m h
    cases h with
    | cons hr h =>
      obtain ⟨m', h1, h2⟩ := ih h
      exact ⟨_ :: m', h1.cons _, .cons hr h2⟩
  | swap x y l =>
    intro m h
    cases h with
    | cons h1 h =>
      cases h with
      | cons h2 h => exact ⟨_, .swap _ _ _, .cons h2 (.cons h1 h)⟩
  | trans _ _ ih1 ih2 =>
    intro m h
    obtain ⟨m1, a, b⟩ := ih2 h
    obtain ⟨m2, c, d⟩ := ih1 b
    exact ⟨m2, c.trans a, d⟩
theorem sorted_eq : ∀ {xs bs : List Bd}, xs.Perm bs → xs.Pairwise (fun a b => a.v ≤ b.v) → bs.Pairwise (fun a b => a.v < b.v) → xs = bs
  | [], bs, h, _, _ => by simpa using h.length_eq.symm
  | x :: xs, bs, h, h1, h2 => by
    cases bs with
    | nil => simpa using h.length_eq
    | cons b bs =>
      rw [List.pairwise_cons] at h1 h2
      have hx : x ∈ b :: bs := h.subset (by simp)
      have hb : b ∈ x :: xs := h.symm.subset (by simp)
      have e1 : x.v ≤ b.v := by
        rcases List.mem_cons.1 hb with e | e
        · rw [e]; exact Int.le_refl _
        · exact h1.1 b e
      have e : x = b := by
        rcases List.mem_cons.1 hx with e | e
        · exact e
        · have := h2.1 x e; omega
      subst e
      rw [sorted_eq (h.cons_inv) h1.2 h2.2]
theorem pair_le {r : B4 → Bd → Prop} (hv : ∀ x b, r x b → x.v = b.v) : ∀ {l : List B4} {m : List Bd}, All2 r l m → l.Pairwise (fun a b => a.v ≤ b.v) → m.Pairwise (fun a b => a.v ≤ b.v)
  | _, _, .nil, _ => .nil
  | _, _, .cons (a := a) (b := b) (l := l) (m := m) h1 h2, h => by
    rw [List.pairwise_cons] at h ⊢
    refine ⟨fun y hy => ?_, pair_le hv h2 h.2⟩
    obtain ⟨i, hi⟩ := List.mem_iff_getElem?.1 hy
    obtain ⟨x, hx, hr⟩ := h2.at i y hi
    rw [← hv _ _ h1, ← hv _ _ hr]
    exact h.1 x (List.mem_of_getElem? hx)
theorem enters36 : Go.Ab.Enters Try.prog 36 := by
  obtain ⟨fn, c, e1, e2, e3, _⟩ := fn36.ex
  exact ⟨fn, e1, by rw [e2]; rfl, e3⟩
theorem bd_bd {S : Nat → Prop} {xs : List Bd} : ∀ cs ∈ xs.map Bd.tc, V.bdL S cs := by
  intro cs hcs
  obtain ⟨p, _, rfl⟩ := List.mem_map.1 hcs
  simp [Bd.tc, V.bdL, V.bd]
theorem HpOk_bd (xs : List Bd) : HpOk [some (rowB xs)] := by
  refine ⟨fun b k e => ?_, fun b k e => ?_⟩ <;> (cases b with
    | zero => simp only [hget, List.getElem?_cons_zero, Option.join_some, Option.some.injEq] at e; subst e; first | rfl | exact bd_bd
    | succ b => simp [hget] at e)
theorem LV_bd (xs : List Bd) : ∀ b, b < [some (rowB xs)].length → LV [some (rowB xs)] b := fun b hb => by
  have : b = 0 := by simpa using hb
  subst this; exact ⟨_, rfl⟩
/-- how four cells stand for a binding -/
def Rl (G : Gh) (x : B4) (b : Bd) : Prop := x.v = b.v ∧ x.k = b.t.kd ∧ x.i = b.t.id ∧ RP G.I (.list 3 (encL b.t.args)) (.slice x.a x.n x.c)
theorem hget_one {k : Option Blk} {b : Nat} {x : Blk} (h : hget [k] b = some x) : b = 0 ∧ k = some x := by
  cases b with
  | zero => exact ⟨rfl, by simpa [hget] using h⟩
  | succ b => simp [hget] at h
theorem flat_at {d : Array B4} {i j : Nat} {x : B4} (hx : d[i]? = some x) (hj : j < 4) : i * 4 + j < d.size * 4 ∧ (flatK enc4 4 d)[i * 4 + j]! = (enc4 x)[j]! := by
  have hi : i < d.size := (Array.getElem?_eq_some_iff.1 hx).1
  have h1 : i * 4 + j < d.size * 4 := by omega
  refine ⟨h1, ?_⟩
  rw [get_flatK _ _ _ _ h1, show (i * 4 + j) / 4 = i by omega, show (i * 4 + j) % 4 = j by omega]
  rw [getElem!_pos d i hi]
  have := (Array.getElem?_eq_some_iff.1 hx).2
  rw [this]
set_option maxHeartbeats 4000000 in
theorem sort_ok (xs bs : List Bd) (hp : xs.Perm bs) (hs : bs.Pairwise (fun a b => a.v < b.v)) : SortOk xs bs := by
  refine ⟨enters36, by simp, by simp, LV_bd xs, HpOk_bd xs, HpOk_bd bs, ?_, by simp [V.bd], fun G w us rel hus => ?_⟩
  · simp only [V.bdL, V.bd, and_true]; exact ⟨_, rfl⟩
  simp only [RL, R] at hus
  obtain ⟨u0, _, rfl, ⟨cap, rfl, hc1, hc2, hc3, hc4, hc5⟩, u1, _, rfl, hf, rfl⟩ := hus
  simp only [RP, RPL] at hf
  obtain ⟨cb, rfl, hcb⟩ := hf
  have hcb : cb = #[] := by apply Array.toList_inj.1; simpa using hcb
  subst hcb
  obtain ⟨arr, harr, br⟩ := rel.blk 0 (rowB xs) rfl
  have hblk : G.φ 0 < w.heap.size := (Array.getElem?_eq_some_iff.1 harr).1
  -- the elements as they stand
  have hex : ∀ i b, xs[i]? = some b → ∃ x : B4, Rl G x b ∧ ∀ j, j < 4 → arr[i * 4 + j]? = some (enc4 x)[j]! := by
    intro i b hb
    have hcs : (rowB xs).xs[i]? = some b.tc := by simp [hb]
    obtain ⟨v0, a0, _, r0⟩ := br.cell i 0 _ _ hcs rfl
    obtain ⟨v1, a1, _, r1⟩ := br.cell i 1 _ _ hcs rfl
    obtain ⟨v2, a2, _, r2⟩ := br.cell i 2 _ _ hcs rfl
    obtain ⟨v3, a3, _, r3⟩ := br.cell i 3 _ _ hcs rfl
    simp only [R, RP] at r0 r1 r2
    simp only [R] at r3
    have r3' := r3
    simp only [RP] at r3'
    obtain ⟨a, n, c, e, _⟩ := r3'
    subst e r0 r1 r2
    refine ⟨⟨b.v, b.t.kd, b.t.id, a, n, c⟩, ⟨rfl, rfl, rfl, r3⟩, fun j hj => ?_⟩
    match j, hj with
    | 0, _ => exact a0
    | 1, _ => exact a1
    | 2, _ => exact a2
    | 3, _ => exact a3
  have hex' : ∀ i, ∃ x : B4, ∀ b, xs[i]? = some b → Rl G x b ∧ ∀ j, j < 4 → arr[i * 4 + j]? = some (enc4 x)[j]! := fun i => by
    cases h : xs[i]? with
    | none => exact ⟨default, fun b h => by cases h⟩
    | some b => obtain ⟨x, hx⟩ := hex i b h; exact ⟨x, fun b' e => by cases e; exact hx⟩
  obtain ⟨f, hf⟩ := Classical.axiomOfChoice hex'
  let d : Array B4 := ((List.range xs.length).map f).toArray
  have hd : d.size = xs.length := by simp [d]
  have hdi : ∀ i, i < xs.length → d[i]? = some (f i) := fun i hi => by simp [d, hi]
  have hall : All2 (Rl G) d.toList xs := All2.of fun i b hb => (hf i b hb).1
  have hcells : ∀ i, i < xs.length → ∀ j, j < 4 → arr[i * 4 + j]? = some (enc4 (f i))[j]! := fun i hi j hj => (hf i xs[i] (by simp [hi])).2 j hj
  have hH : HoldsK enc4 4 w (G.φ 0) 0 d := by
    intro t ht
    rw [size_flatK, hd] at ht
    have hi : t / 4 < xs.length := by omega
    have hj : t % 4 < 4 := by omega
    have h1 := (flat_at (hdi _ hi) hj).2
    have h2 := hcells _ hi _ hj
    rw [show t / 4 * 4 + t % 4 = t by omega] at h1 h2
    refine ⟨?_, by simp [World.frozen?, harr]⟩
    rw [Nat.zero_add, cell_arr harr, h2, h1]
    rfl
  have eg : ∀ args w, (callFunc 37 args).run Try.prog w = .ok (.enter 37 args) w := enters_of Try.func37 (by kernel_rfl) rfl
  have hcmp : CmpLays Try.prog 37 #[] enc4 4 cf4 (G.φ 0) 0 d.size w := fun _ _ _ _ x y => closure37 x y _
  have hcon := AnyQ.slices_SortFunc sortB 4 Try.isAgg42 Try.sizeOf42 enc4 (fun _ => rfl) (fun x v hv => by simp [enc4] at hv; rcases hv with rfl | rfl | rfl | rfl <;> rfl) cf4 swo4 37 #[] (G.φ 0) 0 cap d w eg hcmp hH hblk (by rw [hd]; unfold big at hc2; omega)
  change Calls Try.prog 36 _ _ _ at hcon
  rw [hd] at hcon
  refine hcon.mono fun e w' ⟨he, d', n, os, ⟨hs1, _, hperm⟩, hsort, hw'⟩ => ?_
  have hs2 : d'.size = xs.length := hs1.trans hd
  have hperm' : d'.toList.Perm d.toList := by
    have e1 : d'.extract 0 xs.length = d' := by rw [← hs2]; simp
    have e2 : d.extract 0 xs.length = d := by rw [← hd]; simp
    rwa [e1, e2] at hperm
  obtain ⟨m', hm1, hm2⟩ := perm_all2 hperm' hall
  have hdv : d'.toList.Pairwise (fun a b => a.v ≤ b.v) := by
    rw [List.pairwise_iff_getElem]
    intro i j hi hj hij
    rw [Array.length_toList] at hi hj
    have := hsort i j (Nat.zero_le _) hij (by omega)
    rw [getElem!_pos d' i hi, getElem!_pos d' j hj, lt4] at this
    have h3 := of_decide_eq_false this
    simp only [Array.getElem_toList]
    omega
  have hmb : m' = bs := sorted_eq (hm1.trans hp) (pair_le (fun x b h => h.1) hm2 hdv) hs
  subst hmb
  have hlen : m'.length = xs.length := hm1.length_eq
  -- the world behind
  let arr' := putCells id 0 (flatK enc4 4 d') arr
  have hsz' : arr'.size = arr.size := by simp [arr', putCells]
  have hw1 : ∀ k, k < w.heap.size → k ≠ G.φ 0 → w'.heap[k]? = w.heap[k]? := fun k hk hne => by
    rw [hw']
    unfold sortWorldK
    rw [heap_grow_old _ _ (by rw [size_putRowK]; exact hk)]
    simp only [putRowK, putRow, mapBlock, Sort.ahead, Array.getElem?_modify, if_neg (Ne.symm hne)]
  have hw2 : w'.heap[G.φ 0]? = some (.cells arr' 42 (0, 0)) := by
    rw [hw']
    unfold sortWorldK
    rw [heap_grow_old _ _ (by rw [size_putRowK]; exact hblk)]
    simp only [putRowK, putRow, mapBlock, Sort.ahead, Array.getElem?_modify, if_true, harr, Option.map_some, onCells]
    rfl
  have hw3 : w.heap.size ≤ w'.heap.size := by
    rw [hw']; unfold sortWorldK; rw [size_grow, size_putRowK]; exact Nat.le_add_right _ _
  have hw4 : w'.os = w.os ∧ w'.tape = w.tape ∧ w'.output = w.output := by rw [hw']; exact ⟨rfl, rfl, rfl⟩
  have harr' : ∀ i j, i < xs.length → j < 4 → ∀ x, d'[i]? = some x → arr'[i * 4 + j]? = some (enc4 x)[j]! := fun i j hi hj x hx => by
    obtain ⟨h1, h2⟩ := flat_at hx hj
    have hb : i * 4 + j < arr.size := by
      have := hcells i hi j hj
      exact (Array.getElem?_eq_some_iff.1 this).1
    simp only [arr', putCells, Array.getElem?_mapIdx, Array.getElem?_eq_getElem hb, Option.map_some, size_flatK, Nat.zero_le, Nat.zero_add, true_and, h1, if_true, Nat.sub_zero, h2, _root_.id]
  refine ⟨.tuple #[], G, he, Gh.le.refl _ _, ⟨⟨fun a v e => ?_, rel.imm.laid⟩, fun b k e => ?_, fun b b' k k' e e' _ => ?_, fun b k e hro a v ea => ?_, fun b k e => ?_, fun b k e => ?_⟩, ⟨hw4.1, hw4.2.1, hw4.2.2, hw3, Imm.le.refl _, fun k hk hn => hw1 k hk (fun e => hn 0 _ rfl rfl e.symm), fun b blk e hro _ => ?_, fun b blk e _ => ?_, fun a v e _ => .inl e⟩, by simp [R, RP, RPL]⟩
  · have hne := rel.sep 0 _ rfl rfl a v e
    have h1 := rel.imm.ok a v e
    have hlt : a.block < w.heap.size := World.block_lt_of_cell? w a h1
    rw [World.cell?_of_block (w := w) (hw1 _ hlt hne)]; exact h1
  · obtain ⟨rfl, e⟩ := hget_one e
    cases e
    refine ⟨arr', hw2, br.sz, by rw [hsz']; exact br.size, ?_, fun i cs hi => ?_, fun i j cs c hi hj => ?_, fun h => (by cases h), fun m h => (by cases h)⟩
    · have := br.fits
      simp only [rowB, List.length_map] at this ⊢
      rw [hsz', hlen]; exact this
    · simp only [List.getElem?_map] at hi
      obtain ⟨b, _, rfl⟩ := Option.map_eq_some_iff.1 hi
      rfl
    · simp only [List.getElem?_map] at hi
      obtain ⟨b, hb, rfl⟩ := Option.map_eq_some_iff.1 hi
      obtain ⟨x, hx, hr⟩ := hm2.at i b hb
      rw [Array.getElem?_toList] at hx
      have hi2 : i < xs.length := by rw [← hlen]; exact (List.getElem?_eq_some_iff.1 hb).1
      obtain ⟨q1, q2, q3, q4⟩ := hr
      match j, hj with
      | 0, hj => simp only [Bd.tc, List.getElem?_cons_zero, Option.some.injEq] at hj; subst hj; exact ⟨_, harr' i 0 hi2 (by omega) x hx, rfl, by simp [R, RP, enc4, q1]⟩
      | 1, hj => simp only [Bd.tc, List.getElem?_cons_zero, List.getElem?_cons_succ, Option.some.injEq] at hj; subst hj; exact ⟨_, harr' i 1 hi2 (by omega) x hx, rfl, by simp [R, RP, enc4, q2]⟩
      | 2, hj => simp only [Bd.tc, List.getElem?_cons_zero, List.getElem?_cons_succ, Option.some.injEq] at hj; subst hj; exact ⟨_, harr' i 2 hi2 (by omega) x hx, rfl, by simp [R, RP, enc4, q3]⟩
      | 3, hj => simp only [Bd.tc, List.getElem?_cons_zero, List.getElem?_cons_succ, Option.some.injEq] at hj; subst hj; exact ⟨_, harr' i 3 hi2 (by omega) x hx, rfl, by simp only [R]; exact q4⟩
      | j + 4, hj => simp [Bd.tc] at hj
  · obtain ⟨rfl, _⟩ := hget_one e
    obtain ⟨rfl, _⟩ := hget_one e'
    rfl
  · obtain ⟨rfl, _⟩ := hget_one e
    exact rel.sep 0 _ rfl rfl a v ea
  · obtain ⟨rfl, _⟩ := hget_one e
    exact Nat.zero_lt_one
  · obtain ⟨rfl, e⟩ := hget_one e
    cases e
    exact bd_bd
  · obtain ⟨rfl, _⟩ := hget_one e
    exact ⟨0, _, rfl, rfl, rfl⟩
  · obtain ⟨rfl, _⟩ := hget_one e
    exact ⟨0, _, rfl, rfl⟩
end Go.Proofs.Ytiediojibljpiaa
