/- The abstract memory: values as trees, which machine value and which world stand for them, what a step may change. -/
import Derived.WalkKit
import Derived.Maps.AppendAt
import Derived.Deep.LoopGhost
import Derived.Orders
import Derived.Below
import Derived.KernelRfl
set_option linter.unusedVariables false
namespace Go.Ab
open Go.RowKit

/-- values that lie in no memory that may still change -/
inductive PV where
  | lit (v : Value)
  | rptr (cs : List PV)
  | list (sz : Nat) (xs : List PV)
  | agg (cs : List PV)
  | tup (vs : List PV)
  | fn (f : FuncId) (caps : List PV)
  deriving Inhabited

inductive V where
  | junk
  | pv (p : PV)
  | ptr (b i off : Nat)
  | row (b n : Nat) (full : Bool)
  | agg (cs : List V)
  | tup (vs : List V)
  | fn (f : FuncId) (caps : List V)
  deriving Inhabited

/-- the cells that never change any more -/
abbrev Imm := Addr → Option Value

def big : Nat := 1099511627776

mutual
def RP (I : Imm) : PV → Value → Prop
  | .lit x, v => v = x
  | .rptr cs, v => ∃ ad, v = .pointer (some ad) ∧ RPC I ad 0 cs
  | .list sz xs, v => ∃ a n cap, v = .slice a n cap ∧ n = xs.length ∧ n ≤ cap ∧ n ≤ big ∧ (n = 0 ∨ ∃ ad, a = some ad ∧ RPE I ad 0 sz xs)
  | .agg cs, v => ∃ us, v = .agg us ∧ (∀ u ∈ us.toList, u.oneCell' = true) ∧ RPL I cs us.toList
  | .tup vs, v => ∃ us, v = .tuple us ∧ RPL I vs us.toList
  | .fn f caps, v => ∃ us, v = .func (.func f) #[] us ∧ RPL I caps us.toList
def RPL (I : Imm) : List PV → List Value → Prop
  | [], us => us = []
  | c :: cs, us => ∃ u us', us = u :: us' ∧ RP I c u ∧ RPL I cs us'
/-- the cells at ad + k, ad + k + 1, .. -/
def RPC (I : Imm) (ad : Addr) (k : Nat) : List PV → Prop
  | [] => True
  | c :: cs => (∃ u, I (ad.add k) = some u ∧ u.oneCell' = true ∧ RP I c u) ∧ RPC I ad (k + 1) cs
/-- elements of sz cells each from ad + k on -/
def RPE (I : Imm) (ad : Addr) (k sz : Nat) : List PV → Prop
  | [] => True
  | .agg cs :: xs => cs.length = sz ∧ RPC I ad k cs ∧ RPE I ad (k + sz) sz xs
  | x :: xs => sz = 1 ∧ (∃ u, I (ad.add k) = some u ∧ u.oneCell' = true ∧ RP I x u) ∧ RPE I ad (k + sz) sz xs
end

def PV.cells : PV → List PV
  | .agg cs => cs
  | x => [x]

theorem RPE_cons {I : Imm} {ad : Addr} {k sz : Nat} {x : PV} {xs : List PV} : RPE I ad k sz (x :: xs) ↔ x.cells.length = sz ∧ RPC I ad k x.cells ∧ RPE I ad (k + sz) sz xs := by
  cases x
  case agg cs => simp only [RPE, PV.cells]
  all_goals (simp only [RPE, RPC, PV.cells, List.length_cons, List.length_nil, and_true]; constructor <;> (rintro ⟨h1, h2⟩; exact ⟨by omega, h2⟩))

/-- which machine block an abstract one is, how many cells that has, how many an element has, the cells that never change -/
structure Gh where
  φ : Nat → Nat
  κ : Nat → Nat
  σ : Nat → Nat
  I : Imm

mutual
def R (G : Gh) : V → Value → Prop
  | .junk, _ => True
  | .pv p, v => RP G.I p v
  | .ptr b i off, v => v = .pointer (some ⟨G.φ b, i * G.σ b + off, none⟩)
  | .row b n full, v => ∃ cap, v = .slice (some ⟨G.φ b, 0, none⟩) n cap ∧ n ≤ cap ∧ n ≤ big ∧ cap ≤ maxLen ∧ cap * G.σ b = G.κ b ∧ (full = true → cap = n)
  | .agg cs, v => ∃ us, v = .agg us ∧ (∀ u ∈ us.toList, u.oneCell' = true) ∧ RL G cs us.toList
  | .tup vs, v => ∃ us, v = .tuple us ∧ RL G vs us.toList
  | .fn f caps, v => ∃ us, v = .func (.func f) #[] us ∧ RL G caps us.toList
def RL (G : Gh) : List V → List Value → Prop
  | [], us => us = []
  | c :: cs, us => ∃ u us', us = u :: us' ∧ R G c u ∧ RL G cs us'
end

mutual
/-- the abstract blocks that a value names are in S -/
def V.bd (S : Nat → Prop) : V → Prop
  | .junk => True
  | .pv _ => True
  | .ptr b _ _ => S b
  | .row b _ _ => S b
  | .agg cs => V.bdL S cs
  | .tup vs => V.bdL S vs
  | .fn _ caps => V.bdL S caps
def V.bdL (S : Nat → Prop) : List V → Prop
  | [] => True
  | c :: cs => V.bd S c ∧ V.bdL S cs
end

def Imm.le (I J : Imm) : Prop := ∀ a v, I a = some v → J a = some v
theorem Imm.le.refl (I : Imm) : I.le I := fun _ _ h => h
theorem Imm.le.trans {I J K : Imm} (h : I.le J) (k : J.le K) : I.le K := fun a v e => k a v (h a v e)

mutual
theorem RP_mono {I J : Imm} (h : I.le J) : ∀ (p : PV) (v : Value), RP I p v → RP J p v
  | .lit x, v, r => by simpa [RP] using r
  | .rptr cs, v, r => by
    simp only [RP] at r ⊢
    obtain ⟨ad, e, r⟩ := r
    exact ⟨ad, e, RPC_mono h ad 0 cs r⟩
  | .list sz xs, v, r => by
    simp only [RP] at r ⊢
    obtain ⟨a, n, cap, e, h1, h2, h3, r⟩ := r
    refine ⟨a, n, cap, e, h1, h2, h3, ?_⟩
    rcases r with r | ⟨ad, ea, r⟩
    · exact .inl r
    · exact .inr ⟨ad, ea, RPE_mono h ad 0 sz xs r⟩
  | .agg cs, v, r => by
    simp only [RP] at r ⊢
    obtain ⟨us, e, h1, r⟩ := r
    exact ⟨us, e, h1, RPL_mono h cs _ r⟩
  | .tup cs, v, r => by
    simp only [RP] at r ⊢
    obtain ⟨us, e, r⟩ := r
    exact ⟨us, e, RPL_mono h cs _ r⟩
  | .fn f cs, v, r => by
    simp only [RP] at r ⊢
    obtain ⟨us, e, r⟩ := r
    exact ⟨us, e, RPL_mono h cs _ r⟩
theorem RPL_mono {I J : Imm} (h : I.le J) : ∀ (cs : List PV) (us : List Value), RPL I cs us → RPL J cs us
  | [], us, r => by simpa [RPL] using r
  | c :: cs, us, r => by
    simp only [RPL] at r ⊢
    obtain ⟨u, us', e, r1, r2⟩ := r
    exact ⟨u, us', e, RP_mono h c u r1, RPL_mono h cs us' r2⟩
theorem RPC_mono {I J : Imm} (h : I.le J) (ad : Addr) (k : Nat) : ∀ (cs : List PV), RPC I ad k cs → RPC J ad k cs
  | [], r => by simp [RPC]
  | c :: cs, r => by
    simp only [RPC] at r ⊢
    obtain ⟨⟨u, e, e1, r1⟩, r2⟩ := r
    exact ⟨⟨u, h _ _ e, e1, RP_mono h c u r1⟩, RPC_mono h ad (k + 1) cs r2⟩
theorem RPE_mono {I J : Imm} (h : I.le J) (ad : Addr) (k sz : Nat) : ∀ (cs : List PV), RPE I ad k sz cs → RPE J ad k sz cs
  | [], r => by simp [RPE]
  | .agg cs :: xs, r => by
    simp only [RPE] at r ⊢
    exact ⟨r.1, RPC_mono h ad k cs r.2.1, RPE_mono h ad (k + sz) sz xs r.2.2⟩
  | .lit x :: xs, r => by
    simp only [RPE] at r ⊢
    obtain ⟨e0, ⟨u, e, e1, r1⟩, r2⟩ := r
    exact ⟨e0, ⟨u, h _ _ e, e1, RP_mono h _ u r1⟩, RPE_mono h ad (k + sz) sz xs r2⟩
  | .rptr x :: xs, r => by
    simp only [RPE] at r ⊢
    obtain ⟨e0, ⟨u, e, e1, r1⟩, r2⟩ := r
    exact ⟨e0, ⟨u, h _ _ e, e1, RP_mono h _ u r1⟩, RPE_mono h ad (k + sz) sz xs r2⟩
  | .list s x :: xs, r => by
    simp only [RPE] at r ⊢
    obtain ⟨e0, ⟨u, e, e1, r1⟩, r2⟩ := r
    exact ⟨e0, ⟨u, h _ _ e, e1, RP_mono h _ u r1⟩, RPE_mono h ad (k + sz) sz xs r2⟩
  | .tup x :: xs, r => by
    simp only [RPE] at r ⊢
    obtain ⟨e0, ⟨u, e, e1, r1⟩, r2⟩ := r
    exact ⟨e0, ⟨u, h _ _ e, e1, RP_mono h _ u r1⟩, RPE_mono h ad (k + sz) sz xs r2⟩
  | .fn f x :: xs, r => by
    simp only [RPE] at r ⊢
    obtain ⟨e0, ⟨u, e, e1, r1⟩, r2⟩ := r
    exact ⟨e0, ⟨u, h _ _ e, e1, RP_mono h _ u r1⟩, RPE_mono h ad (k + sz) sz xs r2⟩
end

/-- the blocks of S are the same ones in both; what never changed before never changes later -/
structure Gh.le (S : Nat → Prop) (G G' : Gh) : Prop where
  φ : ∀ b, S b → G'.φ b = G.φ b
  κ : ∀ b, S b → G'.κ b = G.κ b
  σ : ∀ b, S b → G'.σ b = G.σ b
  I : G.I.le G'.I
theorem Gh.le.refl (S : Nat → Prop) (G : Gh) : Gh.le S G G := ⟨fun _ _ => rfl, fun _ _ => rfl, fun _ _ => rfl, Imm.le.refl _⟩

mutual
theorem R_mono {S : Nat → Prop} {G G' : Gh} (h : Gh.le S G G') : ∀ (c : V) (v : Value), c.bd S → R G c v → R G' c v
  | .junk, v, _, r => by simp [R]
  | .pv p, v, _, r => by simp only [R] at r ⊢; exact RP_mono h.I p v r
  | .ptr b i off, v, hb, r => by simp only [R, V.bd] at r hb ⊢; rw [h.φ b hb, h.σ b hb]; exact r
  | .row b n full, v, hb, r => by simp only [R, V.bd] at r hb ⊢; rw [h.φ b hb, h.κ b hb, h.σ b hb]; exact r
  | .agg cs, v, hb, r => by
    simp only [R, V.bd] at r hb ⊢
    obtain ⟨us, e, h1, r⟩ := r
    exact ⟨us, e, h1, RL_mono h cs _ hb r⟩
  | .tup cs, v, hb, r => by
    simp only [R, V.bd] at r hb ⊢
    obtain ⟨us, e, r⟩ := r
    exact ⟨us, e, RL_mono h cs _ hb r⟩
  | .fn f cs, v, hb, r => by
    simp only [R, V.bd] at r hb ⊢
    obtain ⟨us, e, r⟩ := r
    exact ⟨us, e, RL_mono h cs _ hb r⟩
theorem RL_mono {S : Nat → Prop} {G G' : Gh} (h : Gh.le S G G') : ∀ (cs : List V) (us : List Value), V.bdL S cs → RL G cs us → RL G' cs us
  | [], us, _, r => by simpa [RL] using r
  | c :: cs, us, hb, r => by
    simp only [RL, V.bdL] at r hb ⊢
    obtain ⟨u, us', e, r1, r2⟩ := r
    exact ⟨u, us', e, R_mono h c u hb.1 r1, RL_mono h cs us' hb.2 r2⟩
end

mutual
theorem V.bd_mono {S T : Nat → Prop} (h : ∀ b, S b → T b) : ∀ (c : V), c.bd S → c.bd T
  | .junk, _ => by simp [V.bd]
  | .pv p, _ => by simp [V.bd]
  | .ptr b i off, hb => by simp only [V.bd] at hb ⊢; exact h b hb
  | .row b n full, hb => by simp only [V.bd] at hb ⊢; exact h b hb
  | .agg cs, hb => by simp only [V.bd] at hb ⊢; exact V.bdL_mono h cs hb
  | .tup cs, hb => by simp only [V.bd] at hb ⊢; exact V.bdL_mono h cs hb
  | .fn f cs, hb => by simp only [V.bd] at hb ⊢; exact V.bdL_mono h cs hb
theorem V.bdL_mono {S T : Nat → Prop} (h : ∀ b, S b → T b) : ∀ (cs : List V), V.bdL S cs → V.bdL T cs
  | [], _ => by simp [V.bdL]
  | c :: cs, hb => by simp only [V.bdL] at hb ⊢; exact ⟨V.bd_mono h c hb.1, V.bdL_mono h cs hb.2⟩
end

theorem RL_length {G : Gh} : ∀ {cs : List V} {us : List Value}, RL G cs us → us.length = cs.length
  | [], us, r => by simp [RL] at r; simp [r]
  | c :: cs, us, r => by
    simp only [RL] at r
    obtain ⟨u, us', rfl, r1, r2⟩ := r
    simp [RL_length r2]
theorem RL_get {G : Gh} : ∀ {cs : List V} {us : List Value}, RL G cs us → ∀ (i : Nat) c, cs[i]? = some c → ∃ u, us[i]? = some u ∧ R G c u
  | [], us, r, i, c, h => by simp at h
  | d :: cs, us, r, i, c, h => by
    simp only [RL] at r
    obtain ⟨u, us', rfl, r1, r2⟩ := r
    cases i with
    | zero => simp at h; subst h; exact ⟨u, by simp, r1⟩
    | succ i => obtain ⟨v, e, rv⟩ := RL_get r2 i c (by simpa using h); exact ⟨v, by simpa using e, rv⟩
theorem RL_of {G : Gh} : ∀ {cs : List V} {us : List Value}, us.length = cs.length → (∀ (i : Nat) c u, cs[i]? = some c → us[i]? = some u → R G c u) → RL G cs us
  | [], us, hl, h => by simpa [RL] using hl
  | c :: cs, us, hl, h => by
    cases us with
    | nil => simp at hl
    | cons u us =>
      simp only [RL]
      exact ⟨u, us, rfl, h 0 c u (by simp) (by simp), RL_of (by simpa using hl) fun i c' u' h1 h2 => h (i + 1) c' u' (by simpa using h1) (by simpa using h2)⟩
theorem RPL_length {I : Imm} : ∀ {cs : List PV} {us : List Value}, RPL I cs us → us.length = cs.length
  | [], us, r => by simp [RPL] at r; simp [r]
  | c :: cs, us, r => by
    simp only [RPL] at r
    obtain ⟨u, us', rfl, r1, r2⟩ := r
    simp [RPL_length r2]
theorem RPL_get {I : Imm} : ∀ {cs : List PV} {us : List Value}, RPL I cs us → ∀ (i : Nat) c, cs[i]? = some c → ∃ u, us[i]? = some u ∧ RP I c u
  | [], us, r, i, c, h => by simp at h
  | d :: cs, us, r, i, c, h => by
    simp only [RPL] at r
    obtain ⟨u, us', rfl, r1, r2⟩ := r
    cases i with
    | zero => simp at h; subst h; exact ⟨u, by simp, r1⟩
    | succ i => obtain ⟨v, e, rv⟩ := RPL_get r2 i c (by simpa using h); exact ⟨v, by simpa using e, rv⟩
theorem RPL_of {I : Imm} : ∀ {cs : List PV} {us : List Value}, us.length = cs.length → (∀ (i : Nat) c u, cs[i]? = some c → us[i]? = some u → RP I c u) → RPL I cs us
  | [], us, hl, h => by simpa [RPL] using hl
  | c :: cs, us, hl, h => by
    cases us with
    | nil => simp at hl
    | cons u us =>
      simp only [RPL]
      exact ⟨u, us, rfl, h 0 c u (by simp) (by simp), RPL_of (by simpa using hl) fun i c' u' h1 h2 => h (i + 1) c' u' (by simpa using h1) (by simpa using h2)⟩
theorem RPC_iff {I : Imm} {ad : Addr} : ∀ {cs : List PV} {k : Nat}, RPC I ad k cs ↔ ∀ (i : Nat) c, cs[i]? = some c → ∃ u, I (ad.add (k + i)) = some u ∧ u.oneCell' = true ∧ RP I c u
  | [], k => by simp [RPC]
  | d :: cs, k => by
    simp only [RPC, RPC_iff (cs := cs)]
    constructor
    · rintro ⟨h0, h⟩ i c hc
      cases i with
      | zero => simp at hc; subst hc; simpa using h0
      | succ i => have := h i c (by simpa using hc); rwa [show k + (i + 1) = k + 1 + i by omega]
    · intro h
      refine ⟨by simpa using h 0 d (by simp), fun i c hc => ?_⟩
      have := h (i + 1) c (by simpa using hc)
      rwa [show k + (i + 1) = k + 1 + i by omega] at this
theorem RPE_iff {I : Imm} {ad : Addr} {sz : Nat} : ∀ {xs : List PV} {k : Nat}, RPE I ad k sz xs ↔ ∀ (i : Nat) x, xs[i]? = some x → x.cells.length = sz ∧ RPC I ad (k + i * sz) x.cells
  | [], k => by simp [RPE]
  | d :: xs, k => by
    simp only [RPE_cons, RPE_iff (xs := xs)]
    constructor
    · rintro ⟨h0, h1, h⟩ i c hc
      cases i with
      | zero => simp at hc; subst hc; simpa using ⟨h0, h1⟩
      | succ i => have := h i c (by simpa using hc); rwa [show k + (i + 1) * sz = k + sz + i * sz by rw [Nat.add_mul]; omega]
    · intro h
      have h0 := h 0 d (by simp)
      refine ⟨h0.1, by simpa using h0.2, fun i c hc => ?_⟩
      have := h (i + 1) c (by simpa using hc)
      rwa [show k + (i + 1) * sz = k + sz + i * sz by rw [Nat.add_mul]; omega] at this

/-- a block of cells: may it be written no more? its elements' type, how many cells an element has, what the elements hold -/
structure Blk where
  ro : Bool
  ty : TypeId
  sz : Nat
  xs : List (List V)
  /-- which machine block it is, how many cells that has, how many an element has: where that was said -/
  tag : Option (Nat × Nat × Nat)

abbrev HF := Nat → Option Blk

/-- what a block's cells hold -/
structure BlkRel (G : Gh) (b : Nat) (k : Blk) (arr : Array Value) : Prop where
  sz : k.sz = G.σ b
  size : arr.size = G.κ b
  fits : k.xs.length * k.sz ≤ arr.size
  len : ∀ (i : Nat) cs, k.xs[i]? = some cs → cs.length = k.sz
  cell : ∀ (i j : Nat) cs c, k.xs[i]? = some cs → cs[j]? = some c → ∃ u, arr[i * k.sz + j]? = some u ∧ u.oneCell' = true ∧ R G c u
  ro : k.ro = true → ∀ (i : Nat), i < k.xs.length * k.sz → G.I ⟨G.φ b, i, none⟩ = arr[i]?
  tag : ∀ m, k.tag = some m → m = (G.φ b, G.κ b, G.σ b)

/-- an abstract memory stands for a world's -/
structure Rel (S : Nat → Prop) (G : Gh) (h : HF) (w : World) : Prop where
  imm : ∀ a v, G.I a = some v → w.cell? a = some v
  blk : ∀ b k, h b = some k → ∃ arr, w.heap[G.φ b]? = some (.cells arr k.ty (0, 0)) ∧ BlkRel G b k arr
  inj : ∀ b b' k k', h b = some k → h b' = some k' → G.φ b = G.φ b' → b = b'
  sep : ∀ b k, h b = some k → k.ro = false → ∀ a v, G.I a = some v → a.block ≠ G.φ b
  live : ∀ b k, h b = some k → S b
  bd : ∀ b k, h b = some k → ∀ cs ∈ k.xs, V.bdL S cs

/-- what a step may do to a world: of the blocks that were there only those turn that may be written -/
structure Tr (G : Gh) (h : HF) (w : World) (G' : Gh) (h' : HF) (w' : World) : Prop where
  os : w'.os = w.os
  tape : w'.tape = w.tape
  output : w'.output = w.output
  size : w.heap.size ≤ w'.heap.size
  I : G.I.le G'.I
  old : ∀ k, k < w.heap.size → (∀ b blk, h b = some blk → blk.ro = false → G.φ b ≠ k) → w'.heap[k]? = w.heap[k]?
  muts : ∀ b blk, h' b = some blk → blk.ro = false → G'.φ b < w.heap.size → ∃ b0 blk0, h b0 = some blk0 ∧ blk0.ro = false ∧ G.φ b0 = G'.φ b
  lives : ∀ b blk, h' b = some blk → G'.φ b < w.heap.size → ∃ b0 blk0, h b0 = some blk0 ∧ G.φ b0 = G'.φ b
  inew : ∀ a v, G'.I a = some v → a.block < w.heap.size → G.I a = some v ∨ ∃ b blk, h b = some blk ∧ G.φ b = a.block

theorem Tr.refl (G : Gh) (h : HF) (w : World) : Tr G h w G h w := ⟨rfl, rfl, rfl, Nat.le_refl _, Imm.le.refl _, fun _ _ _ => rfl, fun b blk h1 h2 _ => ⟨b, blk, h1, h2, rfl⟩, fun b blk h1 _ => ⟨b, blk, h1, rfl⟩, fun a v e _ => .inl e⟩
theorem Tr.trans {G G1 G2 : Gh} {h h1 h2 : HF} {w w1 w2 : World} (x : Tr G h w G1 h1 w1) (y : Tr G1 h1 w1 G2 h2 w2) : Tr G h w G2 h2 w2 := by
  refine ⟨y.os.trans x.os, y.tape.trans x.tape, y.output.trans x.output, Nat.le_trans x.size y.size, x.I.trans y.I, fun k hk hn => ?_, fun b blk hb hr hlt => ?_, fun b blk hb hlt => ?_, fun a v e hlt => ?_⟩
  · rw [y.old k (Nat.lt_of_lt_of_le hk x.size) fun b blk hb hr e => ?_, x.old k hk hn]
    obtain ⟨b0, blk0, h0, hr0, e0⟩ := x.muts b blk hb hr (by omega)
    exact hn b0 blk0 h0 hr0 (e0.trans e)
  · obtain ⟨b1, blk1, hb1, hr1, e1⟩ := y.muts b blk hb hr (Nat.lt_of_lt_of_le hlt x.size)
    obtain ⟨b0, blk0, h0, hr0, e0⟩ := x.muts b1 blk1 hb1 hr1 (by omega)
    exact ⟨b0, blk0, h0, hr0, e0.trans e1⟩
  · obtain ⟨b1, blk1, hb1, e1⟩ := y.lives b blk hb (Nat.lt_of_lt_of_le hlt x.size)
    obtain ⟨b0, blk0, h0, e0⟩ := x.lives b1 blk1 hb1 (by omega)
    exact ⟨b0, blk0, h0, e0.trans e1⟩
  · rcases y.inew a v e (Nat.lt_of_lt_of_le hlt x.size) with e1 | ⟨b1, blk1, hb1, e1⟩
    · exact x.inew a v e1 hlt
    · obtain ⟨b0, blk0, h0, e0⟩ := x.lives b1 blk1 hb1 (by omega)
      exact .inr ⟨b0, blk0, h0, e0.trans e1⟩
theorem Tr.drew {G G1 : Gh} {h h1 : HF} {w w1 : World} (x : Tr G h w G1 h1 w1) : Tr G h w G1 h1 w1.drew := ⟨x.os, x.tape, x.output, x.size, x.I, x.old, x.muts, x.lives, x.inew⟩
theorem Rel.drew {S : Nat → Prop} {G : Gh} {h : HF} {w : World} (x : Rel S G h w) : Rel S G h w.drew := ⟨x.imm, x.blk, x.inj, x.sep, x.live, x.bd⟩
end Go.Ab
