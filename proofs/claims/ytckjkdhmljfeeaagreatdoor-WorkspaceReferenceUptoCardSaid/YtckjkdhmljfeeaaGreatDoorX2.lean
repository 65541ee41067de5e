/- X2: joined from XE2. -/
import Derived.Test.YtckjkdhmljfeeaaGreatDoorX1
import Derived.Laws.CopyRow
/- One operation, carried out on abstract values: what each kind does. -/
set_option linter.unusedVariables false
set_option linter.unusedSimpArgs false
namespace Go.Ev
open Go Go.RowKit

/-- what a computation without memory yields -/
def pureRun (P : Program) {α : Type} : Sem α → Option α
  | .pure a => some a
  | .program k => pureRun P (k P)
  | .mark _ k => pureRun P k
  | _ => none
theorem pureRun_ok {P : Program} {α : Type} (w : World) (s : Sem α) : ∀ a, pureRun P s = some a → s.run P w = .ok a w := by
  induction s with
  | pure b => intro a h; simp only [pureRun, Option.some.injEq] at h; subst h; rfl
  | program k ih => intro a h; simp only [pureRun] at h; simpa [Sem.run] using ih P a h
  | mark m k ih => intro a h; simp only [pureRun] at h; simpa [Sem.run] using ih a h
  | _ => intro a h; simp [pureRun] at h
mutual
def toV : X → Option Value
  | .v x => some x
  | .ifc t x => match toV x with
    | some u => some (.iface t u)
    | none => none
  | .agg cs => match toVL cs with
    | some us => some (.agg us.toArray)
    | none => none
  | .tup cs => match toVL cs with
    | some us => some (.tuple us.toArray)
    | none => none
  | .fn f [] [] => some (.func (.func f) #[] #[])
  | _ => none
def toVL : List X → Option (List Value)
  | [] => some []
  | c :: cs => match toV c with
    | some u => match toVL cs with
      | some us => some (u :: us)
      | none => none
    | none => none
end
mutual
theorem toV_ok {M : Nm} : ∀ (x : X) (u u' : Value), toV x = some u → RX M x u' → u' = u
  | .v x, u, u', h, r => by simp only [toV, Option.some.injEq, RX] at h r; rw [r, h]
  | .ifc t x, u, u', h, r => by
    simp only [toV] at h
    split at h
    · rename_i y hy
      simp only [Option.some.injEq] at h; subst h
      simp only [RX] at r
      obtain ⟨z, e, r⟩ := r
      rw [e, toV_ok x y z hy r]
    · cases h
  | .agg cs, u, u', h, r => by
    simp only [toV] at h
    split at h
    · rename_i us hy
      simp only [Option.some.injEq] at h; subst h
      simp only [RX] at r
      obtain ⟨z, e, _, r⟩ := r
      have := toVL_ok cs us z.toList hy r
      rw [e, ← this]
    · cases h
  | .tup cs, u, u', h, r => by
    simp only [toV] at h
    split at h
    · rename_i us hy
      simp only [Option.some.injEq] at h; subst h
      simp only [RX] at r
      obtain ⟨z, e, r⟩ := r
      have := toVL_ok cs us z.toList hy r
      rw [e, ← this]
    · cases h
  | .junk, u, u', h, r => by simp [toV] at h
  | .ptr _ _, u, u', h, r => by simp [toV] at h
  | .sl _ _ _ _ _, u, u', h, r => by simp [toV] at h
  | .fn f [] [], u, u', h, r => by
    simp only [toV, Option.some.injEq] at h; subst h
    simp only [RX, RXL] at r
    obtain ⟨vs, us, e, r1, r⟩ := r
    have : us = #[] := by apply Array.ext'; simpa using r
    have h2 : vs = #[] := by apply Array.ext'; simpa using r1
    rw [e, this, h2]
  | .fn _ (_ :: _) _, u, u', h, r => by simp [toV] at h
  | .fn _ [] (_ :: _), u, u', h, r => by simp [toV] at h
theorem toVL_ok {M : Nm} : ∀ (xs : List X) (us us' : List Value), toVL xs = some us → RXL M xs us' → us' = us
  | [], us, us', h, r => by simp only [toVL, Option.some.injEq, RXL] at h r; rw [r, h]
  | c :: cs, us, us', h, r => by
    simp only [toVL] at h
    split at h
    · rename_i u hu
      split at h
      · rename_i vs hvs
        simp only [Option.some.injEq] at h; subst h
        simp only [RXL] at r
        obtain ⟨y, ys, e, r1, r2⟩ := r
        rw [e, toV_ok c u y hu r1, toVL_ok cs vs ys hvs r2]
      · cases h
    · cases h
end
/-- the cells that a value takes -/
def cells? : X → Option (List X)
  | .agg cs => some cs
  | .v (.agg us) => if us.toList.all Value.oneCell' then some (us.toList.map .v) else none
  | .v (.tuple _) => none
  | .tup _ => none
  | .junk => none
  | x => some [x]
theorem RXL_vs {M : Nm} : ∀ (us : List Value), RXL M (us.map .v) us
  | [] => by simp [RXL]
  | u :: us => by simp only [List.map_cons, RXL]; exact ⟨u, us, rfl, by simp [RX], RXL_vs us⟩
theorem bdL_vs {S : Nat → Prop} (us : List Value) : bdL S (us.map .v) := bdL_iff.2 fun c hc => by
  obtain ⟨u, _, rfl⟩ := List.mem_map.1 hc; simp [X.bd]
theorem cells_ok {M : Nm} {x : X} {cs : List X} {u : Value} (h : cells? x = some cs) (r : RX M x u) : RXL M cs u.cells.toList ∧ ∀ c ∈ u.cells.toList, c.oneCell' = true := by
  have one : ∀ (x : X) (u : Value), RX M x u → u.oneCell' = true → RXL M [x] u.cells.toList ∧ ∀ c ∈ u.cells.toList, c.oneCell' = true := fun x u r h => by
    have : u.cells = #[u] := by cases u <;> first | rfl | simp [Value.oneCell'] at h
    rw [this]
    exact ⟨by simp only [RXL]; exact ⟨u, [], rfl, r, rfl⟩, by simpa using h⟩
  cases x with
  | junk => simp [cells?] at h
  | tup vs => simp [cells?] at h
  | agg ds =>
    simp only [cells?, Option.some.injEq] at h; subst h
    simp only [RX] at r
    obtain ⟨us, rfl, h1, r⟩ := r
    exact ⟨r, h1⟩
  | v y =>
    have e : u = y := by simpa only [RX] using r
    subst e
    cases u with
    | agg us =>
      simp only [cells?] at h
      split at h
      · rename_i ha
        simp only [Option.some.injEq] at h; subst h
        exact ⟨RXL_vs _, fun c hc => List.all_eq_true.1 ha c hc⟩
      · cases h
    | tuple us => simp [cells?] at h
    | _ => (simp only [cells?, Option.some.injEq] at h; subst h; exact one _ _ (by simp [RX]) rfl)
  | ptr b off =>
    simp only [cells?, Option.some.injEq] at h; subst h
    refine one _ u r ?_
    simp only [RX] at r; subst r; rfl
  | sl b off n sz c =>
    simp only [cells?, Option.some.injEq] at h; subst h
    refine one _ u r ?_
    simp only [RX] at r; obtain ⟨cap, rfl, _⟩ := r; rfl
  | fn f fs caps =>
    simp only [cells?, Option.some.injEq] at h; subst h
    refine one _ u r ?_
    simp only [RX] at r; obtain ⟨vs, us, rfl, _⟩ := r; rfl
  | ifc t y =>
    simp only [cells?, Option.some.injEq] at h; subst h
    refine one _ u r ?_
    simp only [RX] at r; obtain ⟨us, rfl, _⟩ := r; rfl
theorem cells_bd {S : Nat → Prop} {x : X} {cs : List X} (h : cells? x = some cs) (b : x.bd S) : bdL S cs := by
  cases x with
  | junk => simp [cells?] at h
  | tup vs => simp [cells?] at h
  | agg ds => simp only [cells?, Option.some.injEq] at h; subst h; simpa only [X.bd] using b
  | v y =>
    cases y with
    | agg us =>
      simp only [cells?] at h
      split at h
      · simp only [Option.some.injEq] at h; subst h; exact bdL_vs _
      · cases h
    | tuple us => simp [cells?] at h
    | _ => (simp only [cells?, Option.some.injEq] at h; subst h; simp [bdL, X.bd])
  | _ => (simp only [cells?, Option.some.injEq] at h; subst h; simpa [bdL] using b)
/-- a value made of cells -/
def unc (g : Bool) (cs : List X) : X := match g with
  | true => .agg cs
  | false => match cs with
    | [c] => c
    | _ => .junk
theorem unc_ok {M : Nm} {g : Bool} {cs : List X} {us : List Value} (hr : RXL M cs us) (h1 : ∀ u ∈ us, u.oneCell' = true) (hc : g = true ∨ cs.length = 1) : RX M (unc g cs) (Ab.mkc g us) := by
  unfold unc Ab.mkc
  cases g with
  | true => simp only [if_true, RX]; exact ⟨us.toArray, rfl, by simpa using h1, hr⟩
  | false =>
    simp only [Bool.false_eq_true, if_false, false_or] at hc ⊢
    match cs, hr, hc with
    | [c], hr, _ =>
      simp only [RXL] at hr
      obtain ⟨u, us', rfl, r1, rfl⟩ := hr
      exact r1
theorem unc_bd {S : Nat → Prop} {g : Bool} {cs : List X} (h : bdL S cs) : (unc g cs).bd S := by
  unfold unc
  split
  · simpa only [X.bd] using h
  · split
    · simpa [bdL] using h
    · simp [X.bd]
theorem bdL_sub {S : Nat → Prop} {cs ds : List X} (h : bdL S cs) (hs : ∀ c ∈ ds, c ∈ cs) : bdL S ds := bdL_iff.2 fun c hc => bdL_iff.1 h c (hs c hc)

/-- what an operation does to the blocks -/
inductive Ef where
  | nop
  | put (b off : Nat) (vs : List X)
  | new (b : Nat) (k : Blk)
  | mv (b nb : Nat) (k : Blk)
def spl (xs : List X) (off : Nat) (vs : List X) : List X := xs.take off ++ vs ++ xs.drop (off + vs.length)
def Ef.app : Ef → HF → HF
  | .nop, h => h
  | .put b off vs, h => upd h b (match h b with | some k => some { k with xs := spl k.xs off vs } | none => none)
  | .new nb k, h => upd h nb (some k)
  | .mv b nb k, h => upd (upd h b none) nb (some k)
structure Out where
  v : X
  ef : Ef
  rd : List (Nat × Nat × Nat)
def hdr (k : Blk) : Bool × TypeId × Nat := (k.ro, k.ty, k.xs.length)
def cellOf (h : HF) (b i : Nat) : Option X := (h b).bind (·.xs[i]?)
/-- what is read is the same -/
def agr (rd : List (Nat × Nat × Nat)) (h h2 : HF) : Prop := ∀ r ∈ rd, (h2 r.1).map hdr = (h r.1).map hdr ∧ ∀ i, r.2.1 ≤ i → i < r.2.1 + r.2.2 → cellOf h2 r.1 i = cellOf h r.1 i
theorem agr_self (rd : List (Nat × Nat × Nat)) (h : HF) : agr rd h h := fun _ _ => ⟨rfl, fun _ _ _ => rfl⟩
theorem agr_cells {rd : List (Nat × Nat × Nat)} {h h2 : HF} (ha : agr rd h h2) {b off n : Nat} (hm : (b, off, n) ∈ rd) {k : Blk} (hk : h b = some k) :
    ∃ k2, h2 b = some k2 ∧ k2.ro = k.ro ∧ k2.ty = k.ty ∧ k2.xs.length = k.xs.length ∧ (k2.xs.drop off).take n = (k.xs.drop off).take n := by
  obtain ⟨h1, h3⟩ := ha _ hm
  simp only at h1 h3
  rw [hk] at h1
  cases h4 : h2 b with
  | none => rw [h4] at h1; simp at h1
  | some k2 =>
    rw [h4] at h1
    simp only [Option.map_some, Option.some.injEq, hdr, Prod.mk.injEq] at h1
    refine ⟨k2, rfl, h1.1, h1.2.1, h1.2.2, List.ext_getElem? fun i => ?_⟩
    rw [List.getElem?_take, List.getElem?_take]
    split
    · rename_i hi
      have := h3 (off + i) (by omega) (by omega)
      simp only [cellOf, h4, hk, Option.bind_some] at this
      rw [List.getElem?_drop, List.getElem?_drop, this]
    · rfl
theorem brel_cells {M : Nm} {b : Nat} {k : Blk} {w : World} (r : BRel M b k w) {off n : Nat} (hle : off + n ≤ k.xs.length) :
    ∃ us : List Value, us.length = n ∧ (∀ (j : Nat) u, us[j]? = some u → w.cell? ((⟨M.φ b, off, none⟩ : Addr).add j) = some u) ∧ (∀ u ∈ us, u.oneCell' = true) ∧ RXL M ((k.xs.drop off).take n) us := by
  obtain ⟨arr, ty, fz, e, _, e2, e3, e4⟩ := r
  have hex : ∀ j, j < n → ∃ u, arr[off + j]? = some u ∧ u.oneCell' = true ∧ RX M (k.xs.getD (off + j) .junk) u := fun j hj => by
    obtain ⟨u, f1, f2, f3⟩ := e4 (off + j) (k.xs.getD (off + j) .junk) (by rw [List.getD_eq_getElem?_getD, List.getElem?_eq_getElem (by omega)]; rfl)
    exact ⟨u, f1, f2, f3⟩
  refine ⟨(List.range n).map fun j => arr.getD (off + j) undef, by simp, fun j u hu => ?_, fun u hu => ?_, RXL_of (by simp; omega) fun j c u h1 h2 => ?_⟩
  · simp only [List.getElem?_map, Option.map_eq_some_iff] at hu
    obtain ⟨j', hj', rfl⟩ := hu
    have hjlt : j < n := by have := (List.getElem?_eq_some_iff.1 hj').1; simpa using this
    have : j' = j := by rw [List.getElem?_range hjlt] at hj'; simpa using hj'.symm
    subst this
    obtain ⟨u, f1, _, _⟩ := hex j' hjlt
    have hadd : (⟨M.φ b, off, none⟩ : Addr).add j' = ⟨M.φ b, off + j', none⟩ := by unfold Addr.add; split <;> simp_all
    rw [hadd]
    simp only [World.cell?, e, Option.isSome_none, Bool.false_eq_true, if_false, f1]
    simp [f1]
  · obtain ⟨j, hj, rfl⟩ := List.mem_map.1 hu
    obtain ⟨u, f1, f2, _⟩ := hex j (by simpa using hj)
    simpa [f1] using f2
  · simp only [List.getElem?_map, Option.map_eq_some_iff] at h2
    obtain ⟨j', hj', rfl⟩ := h2
    have hjlt : j < n := by have := (List.getElem?_eq_some_iff.1 hj').1; simpa using this
    have : j' = j := by rw [List.getElem?_range hjlt] at hj'; simpa using hj'.symm
    subst this
    obtain ⟨u, f1, _, f3⟩ := hex j' hjlt
    rw [List.getElem?_take, if_pos hjlt, List.getElem?_drop] at h1
    rw [List.getD_eq_getElem?_getD, h1] at f3
    simpa [f1] using f3
/-- how many names an operation needs -/
def Ef.cnt : Ef → Nat
  | .nop => 0
  | .put _ _ _ => 0
  | .new _ _ => 1
  | .mv _ _ _ => 1
def eS (e : Ef) (S : Nat → Prop) (nb : Nat) : Nat → Prop := match e with
  | .nop => S
  | .put _ _ _ => S
  | .new _ _ => SS S nb
  | .mv _ _ _ => SS S nb
/-- what comes of an operation in the machine -/
def Outc (n0 : Nat) (S : Nat → Prop) (M : Nm) (w : World) (res : Result Next) (v : X) (S' : Nat → Prop) (h' : HF) : Prop :=
  ∃ u w' M', (res = .ok (.value u) w' ∨ (res = .ok .skip w' ∧ u = undef)) ∧ Nm.le S M M' ∧ XRel n0 S' M' h' w' ∧ Below n0 w w' ∧ RX M' v u ∧ v.bd S'
theorem inSS {S : Nat → Prop} {nb : Nat} : ∀ b, S b → SS S nb b := fun _ h => .inl h
theorem outc_pure {n0 ng N : Nat} {S : Nat → Prop} {M : Nm} {f : Nat → X} {h : HF} {a : Act} {w : World} {res : Result Next} {v : X} {u : Value} (st : St n0 ng N S M f h a w) (hr : res = .ok (.value u) w) (hR : RX M v u) (hb : v.bd S) : Outc n0 S M w res v S h :=
  ⟨u, w, M, .inl hr, Nm.le.refl _ _, st.rel, Below.refl _ _, hR, hb⟩
/-- an operation's outcome is sound -/
def Snd (P : Program) (ng : Nat) (o : Oper) (f : Nat → X) (h : HF) (nb : Nat) (out : Out) : Prop :=
  ∀ n0 N S M f2 h2 a w, St n0 ng N S M f2 h2 a w → (∀ x ∈ o.op.operands.toList, evX ng f2 x = evX ng f x) → agr out.rd h h2 → (out.ef.cnt = 1 → ¬ S nb) → Outc n0 S M w ((execOp a.eval o).run P w) out.v (eS out.ef S nb) (out.ef.app h2)
theorem outc_new {n0 ng N : Nat} {S : Nat → Prop} {M : Nm} {f : Nat → X} {h : HF} {a : Act} {w w1 : World} {nb : Nat} (st : St n0 ng N S M f h a w) (hn : ¬ S nb) (ty : TypeId) (arr : Array Value) (xs : List X) (res : Result Next) (v : X) (u : Value)
    (hw : w1.heap = w.heap) (hb : Below n0 w w1) (hr : res = .ok (.value u) (w1.alloc (.cells arr ty))) (hl : xs.length ≤ arr.size) (hc : ∀ (i : Nat) x, xs[i]? = some x → ∃ u, arr[i]? = some u ∧ u.oneCell' = true ∧ RX M x u) (hbd : bdL S xs)
    (hv : RX (M.new nb w.heap.size arr.size) v u) (hvb : v.bd (SS S nb)) : Outc n0 S M w res v (SS S nb) (upd h nb (some ⟨false, ty, xs⟩)) := by
  have hsz : w1.heap.size = w.heap.size := by rw [hw]
  refine ⟨u, _, _, .inl hr, Nm.new_le hn, ?_, hb.alloc (by rw [hsz]; exact st.hi) _, hv, hvb⟩
  refine st.rel.named hn _ (fun c l e => ?_) (fun c l e => Nat.ne_of_lt (st.rel.lt e)) st.hi ?_ hbd
  · rw [Below.heap_alloc w1 _ _ (by rw [hsz]; exact st.rel.lt e), hw]
  · refine ⟨arr, ty, (0, 0), ?_, fun _ => ⟨rfl, rfl⟩, by simp [Nm.new], hl, fun i x hi => ?_⟩
    · have : (M.new nb w.heap.size arr.size).φ nb = w1.heap.size := by simp [Nm.new, hsz]
      rw [this]
      show (w1.heap.push _)[w1.heap.size]? = _
      simp
    · obtain ⟨u, f1, f2, f3⟩ := hc i x hi
      exact ⟨u, f1, f2, RX_mono (Nm.new_le hn) x u (bdL_iff.1 hbd x (List.mem_of_getElem? hi)) f3⟩
end Go.Ev
