/- Z1: joined from Zb1. -/
import Derived.Test.YtiediojibljpiaaVK3
import Derived.MapKept
/- Objects at literal addresses: maps and structs that are written; what an operation does to them. -/
set_option linter.unusedVariables false
set_option linter.unusedSimpArgs false
namespace Go.Ab
open Go.RowKit

inductive OB where
  | cells (ty : TypeId) (xs : List PV)
  | mp (L : List (Int × PV))
  | it (m n : Nat) (seen : List Nat)
abbrev OS := Nat → Option OB
def oupd (O : OS) (k : Nat) (x : OB) : OS := fun j => if j = k then some x else O j
theorem oupd_same (O : OS) (k : Nat) (x : OB) : oupd O k x k = some x := by simp [oupd]
theorem oupd_ne (O : OS) {j k : Nat} (x : OB) (h : j ≠ k) : oupd O k x j = O j := by simp [oupd, h]
theorem oupd_oupd (O : OS) (k : Nat) (x y : OB) : oupd (oupd O k x) k y = oupd O k y := by funext j; simp only [oupd]; split <;> rfl
def lkm : List (Int × PV) → Int → Option PV
  | [], _ => none
  | (k, p) :: l, a => if a = k then some p else lkm l a
def mins : List (Int × PV) → Int → PV → List (Int × PV)
  | [], a, p => [(a, p)]
  | (k, q) :: l, a, p => if a = k then (a, p) :: l else (k, q) :: mins l a p
def MEs (I : Imm) : Nat → List (Int × PV) → List MapEntry → Prop
  | _, [], es => es = []
  | i, kv :: L, es => ∃ e es', es = e :: es' ∧ e.key = .int .i64 kv.1 ∧ RP I kv.2 e.val ∧ e.born = i ∧ MEs I (i + 1) L es'
theorem MEs_mono {I J : Imm} (h : I.le J) : ∀ (L : List (Int × PV)) (i : Nat) (es : List MapEntry), MEs I i L es → MEs J i L es
  | [], i, es, r => r
  | kv :: L, i, es, ⟨e, es', h1, h2, h3, h4, h5⟩ => ⟨e, es', h1, h2, RP_mono h _ _ h3, h4, MEs_mono h L _ _ h5⟩
theorem MEs_at {I : Imm} : ∀ {L : List (Int × PV)} {i j : Nat} {es : List MapEntry} {kv : Int × PV}, MEs I i L es → L[j]? = some kv → ∃ e, es[j]? = some e ∧ e.key = .int .i64 kv.1 ∧ RP I kv.2 e.val ∧ e.born = i + j
  | [], i, j, es, kv, r, h => by simp at h
  | x :: L, i, 0, es, kv, ⟨e, es', h1, h2, h3, h4, h5⟩, h => by
    simp only [List.getElem?_cons_zero, Option.some.injEq] at h
    subst h
    exact ⟨e, by simp [h1], h2, h3, h4⟩
  | x :: L, i, j + 1, es, kv, ⟨e, es', h1, h2, h3, h4, h5⟩, h => by
    simp only [List.getElem?_cons_succ] at h
    obtain ⟨e1, g1, g2, g3, g4⟩ := MEs_at h5 h
    exact ⟨e1, by simp [h1, g1], g2, g3, by omega⟩
theorem MEs_mem {I : Imm} : ∀ {L : List (Int × PV)} {i : Nat} {es : List MapEntry} {e : MapEntry}, MEs I i L es → e ∈ es → ∃ j kv, L[j]? = some kv ∧ es[j]? = some e ∧ e.key = .int .i64 kv.1 ∧ RP I kv.2 e.val ∧ e.born = i + j
  | [], i, es, e, r, h => by have : es = [] := r; subst this; cases h
  | x :: L, i, es, e, ⟨e0, es', h1, h2, h3, h4, h5⟩, h => by
    subst h1
    rcases List.mem_cons.1 h with rfl | h
    · exact ⟨0, x, rfl, rfl, h2, h3, h4⟩
    · obtain ⟨j, kv, a, b, c, d, f⟩ := MEs_mem h5 h
      exact ⟨j + 1, kv, by simpa using a, by simpa using b, c, d, by omega⟩
theorem MEs_ge {I : Imm} : ∀ {L : List (Int × PV)} {i : Nat} {es : List MapEntry}, MEs I i L es → ∀ e ∈ es, i ≤ e.born ∧ e.born < i + L.length := fun r e he => by
  obtain ⟨j, kv, a, b, c, d, f⟩ := MEs_mem r he
  have := (List.getElem?_eq_some_iff.1 a).1
  omega
theorem MEs_nodup {I : Imm} : ∀ {L : List (Int × PV)} {i : Nat} {es : List MapEntry}, MEs I i L es → (es.map (·.born)).Nodup
  | [], i, es, r => by have : es = [] := r; subst this; simp
  | x :: L, i, es, ⟨e0, es', h1, h2, h3, h4, h5⟩ => by
    subst h1
    simp only [List.map_cons, List.nodup_cons]
    refine ⟨fun hm => ?_, MEs_nodup h5⟩
    obtain ⟨e, he, hb⟩ := List.mem_map.1 hm
    have := (MEs_ge h5 e he).1
    omega
theorem MEs_upd {I : Imm} {a : Int} {p : PV} {v : Value} (hp : RP I p v) : ∀ (L : List (Int × PV)) (i j : Nat) (es : List MapEntry), MEs I i L es →
    (lkm L a = none → Instr.findNow (.int .i64) (.int .i64 a) es j = some none ∧ MEs I i (mins L a p) (es ++ [{ key := .int .i64 a, val := v, born := i + L.length }]) ∧ (mins L a p).length = L.length + 1) ∧
    (∀ q, lkm L a = some q → ∃ n v0, Instr.findNow (.int .i64) (.int .i64 a) es j = some (some (j + n, v0)) ∧ RP I q v0 ∧ (es[n]?).map (·.key) = some (.int .i64 a) ∧
      MEs I i (mins L a p) (es.modify n fun e => { e with key := .int .i64 a, val := v }) ∧ (mins L a p).length = L.length)
  | [], i, j, es, r => by
    have : es = [] := r
    subst this
    exact ⟨fun _ => ⟨rfl, ⟨_, [], rfl, rfl, hp, rfl, rfl⟩, rfl⟩, fun q h => (by cases h)⟩
  | (k, q0) :: L, i, j, es, ⟨e, es', h1, h2, h3, h4, h5⟩ => by
    subst h1
    obtain ⟨ih1, ih2⟩ := MEs_upd hp L (i + 1) (j + 1) es' h5
    simp only at h2 h3
    by_cases hk : a = k
    · subst hk
      have hl : lkm ((a, q0) :: L) a = some q0 := by simp [lkm]
      have hm : mins ((a, q0) :: L) a p = (a, p) :: L := by simp [mins]
      refine ⟨fun h => (by rw [hl] at h; cases h), fun q h => ?_⟩
      rw [hl] at h; cases h
      refine ⟨0, e.val, by simp [Instr.findNow, Instr.sameNow, h2], h3, by simp [h2], ?_, by rw [hm]; simp⟩
      rw [hm]
      exact ⟨_, es', rfl, rfl, hp, h4, h5⟩
    · have hl : lkm ((k, q0) :: L) a = lkm L a := by simp [lkm, hk]
      have hm : mins ((k, q0) :: L) a p = (k, q0) :: mins L a p := by simp [mins, hk]
      have hf : Instr.findNow (.int .i64) (.int .i64 a) (e :: es') j = Instr.findNow (.int .i64) (.int .i64 a) es' (j + 1) := by
        have hkb : (a == k) = false := by simp [hk]
        simp [Instr.findNow, Instr.sameNow, h2, hkb]
      rw [hl, hm, hf]
      refine ⟨fun h => ?_, fun q h => ?_⟩
      · obtain ⟨e1, e2, e3⟩ := ih1 h
        refine ⟨e1, ⟨e, _, rfl, h2, h3, h4, ?_⟩, by simp [e3]⟩
        rw [show i + (((k, q0) :: L).length) = i + 1 + L.length by simp; omega]
        exact e2
      · obtain ⟨n, v0, e1, e2, e3, e4, e5⟩ := ih2 q h
        refine ⟨n + 1, v0, by rw [e1]; congr 3; omega, e2, by simpa using e3, ?_, by simp [e5]⟩
        exact ⟨e, _, by simp, h2, h3, h4, e4⟩
def OAt (I : Imm) (w : World) (k : Nat) : OB → Prop
  | .cells ty xs => ∃ arr : Array Value, w.heap[k]? = some (.cells arr ty (0, 0)) ∧ (∀ u ∈ arr.toList, u.oneCell' = true) ∧ RPL I xs arr.toList
  | .mp L => ∃ es : Array MapEntry, w.heap[k]? = some (.map es L.length) ∧ MEs I 0 L es.toList
  | .it m n seen => w.heap[k]? = some (.mapIter (some m) n seen.toArray n)
theorem OAt.lt {I : Imm} {w : World} {k : Nat} {x : OB} (h : OAt I w k x) : k < w.heap.size := by
  cases x with
  | cells ty xs => obtain ⟨arr, e, _⟩ := h; exact (Array.getElem?_eq_some_iff.1 e).1
  | mp L => obtain ⟨es, e, _⟩ := h; exact (Array.getElem?_eq_some_iff.1 e).1
  | it m n seen => exact (Array.getElem?_eq_some_iff.1 h).1
theorem OAt.keep {I J : Imm} {w w' : World} {k : Nat} {x : OB} (h : OAt I w k x) (hle : I.le J) (hk : w'.heap[k]? = w.heap[k]?) : OAt J w' k x := by
  cases x with
  | cells ty xs => obtain ⟨arr, e, e1, e2⟩ := h; exact ⟨arr, hk.trans e, e1, RPL_mono hle _ _ e2⟩
  | mp L => obtain ⟨es, e, e1⟩ := h; exact ⟨es, hk.trans e, MEs_mono hle _ _ _ e1⟩
  | it m n seen => exact hk.trans h
structure ORel (O : OS) (G : Gh) (h : HF) (w : World) : Prop where
  at_ : ∀ k x, O k = some x → OAt G.I w k x
  sepB : ∀ k x, O k = some x → ∀ b blk, h b = some blk → G.φ b ≠ k
  sepI : ∀ k x, O k = some x → ∀ a v, G.I a = some v → a.block ≠ k
theorem ORel.fresh {O : OS} {G : Gh} {h : HF} {w : World} (r : ORel O G h w) {k : Nat} (hk : w.heap.size ≤ k) : O k = none := by
  cases e : O k with
  | none => rfl
  | some x => have := (r.at_ k x e).lt; omega
theorem ORel.step {O : OS} {G G' : Gh} {h h' : HF} {w w' : World} (r : ORel O G h w) (tr : Tr G h w G' h' w') : ORel O G' h' w' := by
  refine ⟨fun k x e => ?_, fun k x e b blk hb hk => ?_, fun k x e a v hv hk => ?_⟩
  · have h1 := r.at_ k x e
    exact h1.keep tr.I (tr.old k h1.lt fun b blk hb _ => r.sepB k x e b blk hb)
  · obtain ⟨b0, blk0, e0, e1⟩ := tr.lives b blk hb (by rw [hk]; exact (r.at_ k x e).lt)
    exact r.sepB k x e b0 blk0 e0 (e1.trans hk)
  · rcases tr.inew a v hv (by rw [hk]; exact (r.at_ k x e).lt) with e1 | ⟨b, blk, e1, e2⟩
    · exact r.sepI k x e a v e1 hk
    · exact r.sepB k x e b blk e1 (e2.trans hk)
/-- what a step may do where objects are written too -/
structure TrO (G : Gh) (h : HF) (O : OS) (w : World) (G' : Gh) (h' : HF) (O' : OS) (w' : World) : Prop where
  os : w'.os = w.os
  tape : w'.tape = w.tape
  output : w'.output = w.output
  size : w.heap.size ≤ w'.heap.size
  I : G.I.le G'.I
  old : ∀ k, k < w.heap.size → (∀ b blk, h b = some blk → blk.ro = false → G.φ b ≠ k) → O k = none → w'.heap[k]? = w.heap[k]?
  muts : ∀ b blk, h' b = some blk → blk.ro = false → G'.φ b < w.heap.size → ∃ b0 blk0, h b0 = some blk0 ∧ blk0.ro = false ∧ G.φ b0 = G'.φ b
  lives : ∀ b blk, h' b = some blk → G'.φ b < w.heap.size → ∃ b0 blk0, h b0 = some blk0 ∧ G.φ b0 = G'.φ b
  inew : ∀ a v, G'.I a = some v → a.block < w.heap.size → G.I a = some v ∨ ∃ b blk, h b = some blk ∧ G.φ b = a.block
  obj : ∀ k x, O' k = some x → k < w.heap.size → O k ≠ none ∨ ∃ b blk, h b = some blk ∧ blk.ro = false ∧ G.φ b = k
theorem Tr.toO {G G' : Gh} {h h' : HF} {w w' : World} (t : Tr G h w G' h' w') (O : OS) : TrO G h O w G' h' O w' :=
  ⟨t.os, t.tape, t.output, t.size, t.I, fun k hk hn _ => t.old k hk hn, t.muts, t.lives, t.inew, fun k x e _ => .inl (by rw [e]; simp)⟩
theorem TrO.refl (G : Gh) (h : HF) (O : OS) (w : World) : TrO G h O w G h O w := (Tr.refl G h w).toO O
theorem TrO.trans {G G1 G2 : Gh} {h h1' h2' : HF} {O O1 O2 : OS} {w w1 w2 : World} (x : TrO G h O w G1 h1' O1 w1) (y : TrO G1 h1' O1 w1 G2 h2' O2 w2) : TrO G h O w G2 h2' O2 w2 := by
  refine ⟨y.os.trans x.os, y.tape.trans x.tape, y.output.trans x.output, Nat.le_trans x.size y.size, x.I.trans y.I, fun k hk hn ho => ?_, fun b blk hb hr hlt => ?_, fun b blk hb hlt => ?_, fun a v e hlt => ?_, fun k z e hlt => ?_⟩
  · have h1 : O1 k = none := by
      cases e : O1 k with
      | none => rfl
      | some z =>
        rcases x.obj k z e hk with h3 | ⟨b, blk, e1, e2, e3⟩
        · exact absurd ho h3
        · exact absurd e3 (hn b blk e1 e2)
    have h2 : ∀ b blk, h1' b = some blk → blk.ro = false → G1.φ b ≠ k := fun b blk hb hr e => by
      obtain ⟨b0, blk0, h0, hr0, e0⟩ := x.muts b blk hb hr (by omega)
      exact hn b0 blk0 h0 hr0 (e0.trans e)
    rw [y.old k (Nat.lt_of_lt_of_le hk x.size) h2 h1, x.old k hk hn ho]
  · obtain ⟨b1, blk1, hb1, hr1, e1⟩ := y.muts b blk hb hr (Nat.lt_of_lt_of_le hlt x.size)
    obtain ⟨b0, blk0, h0, hr0, e0⟩ := x.muts b1 blk1 hb1 hr1 (by omega)
    exact ⟨b0, blk0, h0, hr0, e0.trans e1⟩
  · obtain ⟨b1, blk1, hb1, e1⟩ := y.lives b blk hb (Nat.lt_of_lt_of_le hlt x.size)
    obtain ⟨b0, blk0, h0, e0⟩ := x.lives b1 blk1 hb1 (by omega)
    exact ⟨b0, blk0, h0, e0.trans e1⟩
  · rcases y.inew a v e (Nat.lt_of_lt_of_le hlt x.size) with e1 | ⟨b1, blk1, hb1, e1⟩
    · exact x.inew a v e1 hlt
    · obtain ⟨b0, blk0, h0, e0⟩ := x.lives b1 blk1 hb1 (by omega)
      exact .inr ⟨b0, blk0, h0, e0.trans e1⟩
  · rcases y.obj k z e (Nat.lt_of_lt_of_le hlt x.size) with h3 | ⟨b1, blk1, hb1, hr1, e1⟩
    · cases e1 : O1 k with
      | none => exact absurd e1 h3
      | some z1 => exact x.obj k z1 e1 hlt
    · obtain ⟨b0, blk0, h0, hr0, e0⟩ := x.muts b1 blk1 hb1 hr1 (by omega)
      exact .inr ⟨b0, blk0, h0, hr0, e0.trans e1⟩
/-- an object is written -/
theorem Rel.obj {S : Nat → Prop} {G : Gh} {h : HF} {O : OS} {w w' : World} (rel : Rel S G h w) (r : ORel O G h w) {k : Nat} {x y : OB} (hk : O k = some x) (hsz : w'.heap.size = w.heap.size) (hw : ∀ j, j ≠ k → w'.heap[j]? = w.heap[j]?) (hos : w'.os = w.os) (htp : w'.tape = w.tape) (hout : w'.output = w.output)
    (hy : OAt G.I w' k y) : Rel S G h w' ∧ ORel (oupd O k y) G h w' ∧ TrO G h O w G h (oupd O k y) w' := by
  refine ⟨⟨⟨fun a v e => ?_, rel.imm.laid⟩, fun b blk e => ?_, rel.inj, rel.sep, rel.live, rel.bd⟩, ⟨fun j z e => ?_, fun j z e b blk hb => ?_, fun j z e a v hv => ?_⟩,
    ⟨hos, htp, hout, by omega, Imm.le.refl _, fun j hj _ ho => hw j fun hjk => (by rw [hjk, hk] at ho; cases ho), fun b blk e hro _ => ⟨b, blk, e, hro, rfl⟩, fun b blk e _ => ⟨b, blk, e, rfl⟩, fun a v e _ => .inl e, fun j z e _ => .inl ?_⟩⟩
  · rw [World.cell?_of_block (w := w) (hw a.block (r.sepI k x hk a v e))]; exact rel.imm.ok a v e
  · obtain ⟨arr, e1, e2⟩ := rel.blk b blk e
    exact ⟨arr, by rw [hw _ (r.sepB k x hk b blk e)]; exact e1, e2⟩
  · by_cases hj : j = k
    · subst hj; rw [oupd_same] at e; cases e; exact hy
    · rw [oupd_ne O y hj] at e; exact (r.at_ j z e).keep (Imm.le.refl _) (hw j hj)
  · by_cases hj : j = k
    · subst hj; exact r.sepB _ x hk b blk hb
    · rw [oupd_ne O y hj] at e; exact r.sepB j z e b blk hb
  · by_cases hj : j = k
    · subst hj; exact r.sepI _ x hk a v hv
    · rw [oupd_ne O y hj] at e; exact r.sepI j z e a v hv
  · by_cases hj : j = k
    · subst hj; rw [hk]; simp
    · rw [oupd_ne O y hj] at e; rw [e]; simp
/-- a new object -/
theorem Rel.objNew {S : Nat → Prop} {G : Gh} {h : HF} {O : OS} {w : World} (rel : Rel S G h w) (r : ORel O G h w) (ob : Obj) (y : OB) (hy : OAt G.I (w.alloc ob) w.heap.size y) :
    Rel S G h (w.alloc ob) ∧ ORel (oupd O w.heap.size y) G h (w.alloc ob) ∧ TrO G h O w G h (oupd O w.heap.size y) (w.alloc ob) := by
  have hb : Below w.heap.size w (w.alloc ob) := (Below.refl _ _).alloc (Nat.le_refl _) _
  refine ⟨rel.keep hb, ⟨fun j z e => ?_, fun j z e b blk hb => ?_, fun j z e a v hv => ?_⟩,
    ⟨rfl, rfl, rfl, hb.size, Imm.le.refl _, fun j hj _ ho => hb.block j hj, fun b blk e hro _ => ⟨b, blk, e, hro, rfl⟩, fun b blk e _ => ⟨b, blk, e, rfl⟩, fun a v e _ => .inl e, fun j z e hlt => .inl ?_⟩⟩
  · by_cases hj : j = w.heap.size
    · subst hj; rw [oupd_same] at e; cases e; exact hy
    · rw [oupd_ne O y hj] at e
      have h1 := r.at_ j z e
      exact h1.keep (Imm.le.refl _) (hb.block j h1.lt)
  · by_cases hj : j = w.heap.size
    · subst hj; have := rel.lt hb; omega
    · rw [oupd_ne O y hj] at e; exact r.sepB j z e b blk hb
  · by_cases hj : j = w.heap.size
    · subst hj; have := rel.imm_lt hv; omega
    · rw [oupd_ne O y hj] at e; exact r.sepI j z e a v hv
  · rw [oupd_ne O y (by omega)] at e; rw [e]; simp
mutual
/-- a value in which no block is named -/
def V.pure : V → Option PV
  | .pv p => some p
  | .agg cs => (V.pureL cs).map .agg
  | .tup cs => (V.pureL cs).map .tup
  | .fn f cs => (V.pureL cs).map (.fn f)
  | _ => none
def V.pureL : List V → Option (List PV)
  | [] => some []
  | c :: cs => match V.pure c, V.pureL cs with
    | some p, some ps => some (p :: ps)
    | _, _ => none
end
mutual
theorem pure_R {G : Gh} : ∀ (v : V) (p : PV) (u : Value), V.pure v = some p → R G v u → RP G.I p u
  | .pv p, q, u, h, r => by simp only [V.pure, Option.some.injEq] at h; subst h; simpa only [R] using r
  | .agg cs, q, u, h, r => by
    simp only [V.pure, Option.map_eq_some_iff] at h
    obtain ⟨ps, h, rfl⟩ := h
    simp only [R] at r; simp only [RP]
    obtain ⟨us, e, h1, r⟩ := r
    exact ⟨us, e, h1, pureL_R cs ps _ h r⟩
  | .tup cs, q, u, h, r => by
    simp only [V.pure, Option.map_eq_some_iff] at h
    obtain ⟨ps, h, rfl⟩ := h
    simp only [R] at r; simp only [RP]
    obtain ⟨us, e, r⟩ := r
    exact ⟨us, e, pureL_R cs ps _ h r⟩
  | .fn f cs, q, u, h, r => by
    simp only [V.pure, Option.map_eq_some_iff] at h
    obtain ⟨ps, h, rfl⟩ := h
    simp only [R] at r; simp only [RP]
    obtain ⟨us, e, r⟩ := r
    exact ⟨us, e, pureL_R cs ps _ h r⟩
  | .junk, q, u, h, r => by simp [V.pure] at h
  | .ptr .., q, u, h, r => by simp [V.pure] at h
  | .row .., q, u, h, r => by simp [V.pure] at h
theorem pureL_R {G : Gh} : ∀ (vs : List V) (ps : List PV) (us : List Value), V.pureL vs = some ps → RL G vs us → RPL G.I ps us
  | [], ps, us, h, r => by simp only [V.pureL, Option.some.injEq] at h; subst h; simpa only [RL, RPL] using r
  | c :: cs, ps, us, h, r => by
    simp only [V.pureL] at h
    split at h
    · rename_i p qs h1 h2
      simp only [Option.some.injEq] at h; subst h
      simp only [RL] at r; simp only [RPL]
      obtain ⟨u, us', e, r1, r2⟩ := r
      exact ⟨u, us', e, pure_R c p u h1 r1, pureL_R cs qs us' h2 r2⟩
    · cases h
end
def splP (cs : List PV) (j : Nat) : List PV → List PV
  | [] => cs
  | c :: new => splP (cs.set j c) (j + 1) new
end Go.Ab
