/- K1: joined from Bb1 Bb2 Bb3 Bb4 Bb5 Bb6 Bb7 Bb8. -/
import Derived.WalkKit
import Derived.Maps.AppendAt
import Derived.Deep.LoopGhost
import Derived.Orders
import Derived.Below
import Derived.KernelRfl
import Derived.Lib.ConvBytes
import Derived.Laws.OwnMore
import Derived.WalkSpells
/- The abstract memory: values as trees, which machine value and which world stand for them, what a step may change. -/
set_option linter.unusedVariables false
namespace Go.Ab
open Go.RowKit

/-- values that lie in no memory that may still change -/
inductive PV where
  | lit (v : Value)
  | rptr (cs : List PV)
  | list (sz : Nat) (xs : List PV)
  | agg (cs : List PV)
  | tup (vs : List PV)
  | fn (f : FuncId) (caps : List PV)
  deriving Inhabited

inductive V where
  | junk
  | pv (p : PV)
  | ptr (b i off : Nat)
  | row (b n : Nat) (full : Bool)
  | agg (cs : List V)
  | tup (vs : List V)
  | fn (f : FuncId) (caps : List V)
  deriving Inhabited

/-- the cells that never change any more -/
abbrev Imm := Addr → Option Value

def big : Nat := 1099511627776

mutual
def RP (I : Imm) : PV → Value → Prop
  | .lit x, v => v = x
  | .rptr cs, v => ∃ ad, v = .pointer (some ad) ∧ RPC I ad 0 cs
  | .list sz xs, v => ∃ a n cap, v = .slice a n cap ∧ n = xs.length ∧ n ≤ cap ∧ n ≤ big ∧ (n = 0 ∧ (a = none → cap = 0) ∨ ∃ ad, a = some ad ∧ RPE I ad 0 sz xs)
  | .agg cs, v => ∃ us, v = .agg us ∧ (∀ u ∈ us.toList, u.oneCell' = true) ∧ RPL I cs us.toList
  | .tup vs, v => ∃ us, v = .tuple us ∧ RPL I vs us.toList
  | .fn f caps, v => ∃ us, v = .func (.func f) #[] us ∧ RPL I caps us.toList
def RPL (I : Imm) : List PV → List Value → Prop
  | [], us => us = []
  | c :: cs, us => ∃ u us', us = u :: us' ∧ RP I c u ∧ RPL I cs us'
/-- the cells at ad + k, ad + k + 1, .. -/
def RPC (I : Imm) (ad : Addr) (k : Nat) : List PV → Prop
  | [] => True
  | c :: cs => (∃ u, I (ad.add k) = some u ∧ u.oneCell' = true ∧ RP I c u) ∧ RPC I ad (k + 1) cs
/-- elements of sz cells each from ad + k on -/
def RPE (I : Imm) (ad : Addr) (k sz : Nat) : List PV → Prop
  | [] => True
  | .agg cs :: xs => cs.length = sz ∧ RPC I ad k cs ∧ RPE I ad (k + sz) sz xs
  | x :: xs => sz = 1 ∧ (∃ u, I (ad.add k) = some u ∧ u.oneCell' = true ∧ RP I x u) ∧ RPE I ad (k + sz) sz xs
end

def PV.cells : PV → List PV
  | .agg cs => cs
  | x => [x]

theorem RPE_cons {I : Imm} {ad : Addr} {k sz : Nat} {x : PV} {xs : List PV} : RPE I ad k sz (x :: xs) ↔ x.cells.length = sz ∧ RPC I ad k x.cells ∧ RPE I ad (k + sz) sz xs := by
  cases x
  case agg cs => simp only [RPE, PV.cells]
  all_goals (simp only [RPE, RPC, PV.cells, List.length_cons, List.length_nil, and_true]; constructor <;> (rintro ⟨h1, h2⟩; exact ⟨by omega, h2⟩))

/-- which machine block an abstract one is, how many cells that has, how many an element has, the cells that never change -/
structure Gh where
  φ : Nat → Nat
  κ : Nat → Nat
  σ : Nat → Nat
  I : Imm

mutual
def R (G : Gh) : V → Value → Prop
  | .junk, _ => True
  | .pv p, v => RP G.I p v
  | .ptr b i off, v => v = .pointer (some ⟨G.φ b, i * G.σ b + off, none⟩)
  | .row b n full, v => ∃ cap, v = .slice (some ⟨G.φ b, 0, none⟩) n cap ∧ n ≤ cap ∧ n ≤ big ∧ cap ≤ maxLen ∧ cap * G.σ b = G.κ b ∧ (full = true → cap = n)
  | .agg cs, v => ∃ us, v = .agg us ∧ (∀ u ∈ us.toList, u.oneCell' = true) ∧ RL G cs us.toList
  | .tup vs, v => ∃ us, v = .tuple us ∧ RL G vs us.toList
  | .fn f caps, v => ∃ us, v = .func (.func f) #[] us ∧ RL G caps us.toList
def RL (G : Gh) : List V → List Value → Prop
  | [], us => us = []
  | c :: cs, us => ∃ u us', us = u :: us' ∧ R G c u ∧ RL G cs us'
end

mutual
/-- the abstract blocks that a value names are in S -/
def V.bd (S : Nat → Prop) : V → Prop
  | .junk => True
  | .pv _ => True
  | .ptr b _ _ => S b
  | .row b _ _ => S b
  | .agg cs => V.bdL S cs
  | .tup vs => V.bdL S vs
  | .fn _ caps => V.bdL S caps
def V.bdL (S : Nat → Prop) : List V → Prop
  | [] => True
  | c :: cs => V.bd S c ∧ V.bdL S cs
end

def Imm.le (I J : Imm) : Prop := ∀ a v, I a = some v → J a = some v
theorem Imm.le.refl (I : Imm) : I.le I := fun _ _ h => h
theorem Imm.le.trans {I J K : Imm} (h : I.le J) (k : J.le K) : I.le K := fun a v e => k a v (h a v e)
/-- package-level variables that hold what the program lays there: block, cells -/
def laidL : List (Nat × List Value) := [(0, (List.range 256).map fun c => .int .u8 (if c = 32 ∨ (9 ≤ c ∧ c ≤ 13) then 1 else 0))]
def Laid (I : Imm) : Prop := ∀ b cs, (b, cs) ∈ laidL → ∀ (j : Nat) u, cs[j]? = some u → I ⟨b, j, none⟩ = some u
theorem Laid.mono {I J : Imm} (h : Laid I) (k : I.le J) : Laid J := fun b cs hm j u hj => k _ _ (h b cs hm j u hj)
structure ImmOk (I : Imm) (w : World) : Prop where
  ok : ∀ a v, I a = some v → w.cell? a = some v
  laid : Laid I

mutual
theorem RP_mono {I J : Imm} (h : I.le J) : ∀ (p : PV) (v : Value), RP I p v → RP J p v
  | .lit x, v, r => by simpa [RP] using r
  | .rptr cs, v, r => by
    simp only [RP] at r ⊢
    obtain ⟨ad, e, r⟩ := r
    exact ⟨ad, e, RPC_mono h ad 0 cs r⟩
  | .list sz xs, v, r => by
    simp only [RP] at r ⊢
    obtain ⟨a, n, cap, e, h1, h2, h3, r⟩ := r
    refine ⟨a, n, cap, e, h1, h2, h3, ?_⟩
    rcases r with r | ⟨ad, ea, r⟩
    · exact .inl r
    · exact .inr ⟨ad, ea, RPE_mono h ad 0 sz xs r⟩
  | .agg cs, v, r => by
    simp only [RP] at r ⊢
    obtain ⟨us, e, h1, r⟩ := r
    exact ⟨us, e, h1, RPL_mono h cs _ r⟩
  | .tup cs, v, r => by
    simp only [RP] at r ⊢
    obtain ⟨us, e, r⟩ := r
    exact ⟨us, e, RPL_mono h cs _ r⟩
  | .fn f cs, v, r => by
    simp only [RP] at r ⊢
    obtain ⟨us, e, r⟩ := r
    exact ⟨us, e, RPL_mono h cs _ r⟩
theorem RPL_mono {I J : Imm} (h : I.le J) : ∀ (cs : List PV) (us : List Value), RPL I cs us → RPL J cs us
  | [], us, r => by simpa [RPL] using r
  | c :: cs, us, r => by
    simp only [RPL] at r ⊢
    obtain ⟨u, us', e, r1, r2⟩ := r
    exact ⟨u, us', e, RP_mono h c u r1, RPL_mono h cs us' r2⟩
theorem RPC_mono {I J : Imm} (h : I.le J) (ad : Addr) (k : Nat) : ∀ (cs : List PV), RPC I ad k cs → RPC J ad k cs
  | [], r => by simp [RPC]
  | c :: cs, r => by
    simp only [RPC] at r ⊢
    obtain ⟨⟨u, e, e1, r1⟩, r2⟩ := r
    exact ⟨⟨u, h _ _ e, e1, RP_mono h c u r1⟩, RPC_mono h ad (k + 1) cs r2⟩
theorem RPE_mono {I J : Imm} (h : I.le J) (ad : Addr) (k sz : Nat) : ∀ (cs : List PV), RPE I ad k sz cs → RPE J ad k sz cs
  | [], r => by simp [RPE]
  | .agg cs :: xs, r => by
    simp only [RPE] at r ⊢
    exact ⟨r.1, RPC_mono h ad k cs r.2.1, RPE_mono h ad (k + sz) sz xs r.2.2⟩
  | .lit x :: xs, r => by
    simp only [RPE] at r ⊢
    obtain ⟨e0, ⟨u, e, e1, r1⟩, r2⟩ := r
    exact ⟨e0, ⟨u, h _ _ e, e1, RP_mono h _ u r1⟩, RPE_mono h ad (k + sz) sz xs r2⟩
  | .rptr x :: xs, r => by
    simp only [RPE] at r ⊢
    obtain ⟨e0, ⟨u, e, e1, r1⟩, r2⟩ := r
    exact ⟨e0, ⟨u, h _ _ e, e1, RP_mono h _ u r1⟩, RPE_mono h ad (k + sz) sz xs r2⟩
  | .list s x :: xs, r => by
    simp only [RPE] at r ⊢
    obtain ⟨e0, ⟨u, e, e1, r1⟩, r2⟩ := r
    exact ⟨e0, ⟨u, h _ _ e, e1, RP_mono h _ u r1⟩, RPE_mono h ad (k + sz) sz xs r2⟩
  | .tup x :: xs, r => by
    simp only [RPE] at r ⊢
    obtain ⟨e0, ⟨u, e, e1, r1⟩, r2⟩ := r
    exact ⟨e0, ⟨u, h _ _ e, e1, RP_mono h _ u r1⟩, RPE_mono h ad (k + sz) sz xs r2⟩
  | .fn f x :: xs, r => by
    simp only [RPE] at r ⊢
    obtain ⟨e0, ⟨u, e, e1, r1⟩, r2⟩ := r
    exact ⟨e0, ⟨u, h _ _ e, e1, RP_mono h _ u r1⟩, RPE_mono h ad (k + sz) sz xs r2⟩
end

/-- the blocks of S are the same ones in both; what never changed before never changes later -/
structure Gh.le (S : Nat → Prop) (G G' : Gh) : Prop where
  φ : ∀ b, S b → G'.φ b = G.φ b
  κ : ∀ b, S b → G'.κ b = G.κ b
  σ : ∀ b, S b → G'.σ b = G.σ b
  I : G.I.le G'.I
theorem Gh.le.refl (S : Nat → Prop) (G : Gh) : Gh.le S G G := ⟨fun _ _ => rfl, fun _ _ => rfl, fun _ _ => rfl, Imm.le.refl _⟩

mutual
theorem R_mono {S : Nat → Prop} {G G' : Gh} (h : Gh.le S G G') : ∀ (c : V) (v : Value), c.bd S → R G c v → R G' c v
  | .junk, v, _, r => by simp [R]
  | .pv p, v, _, r => by simp only [R] at r ⊢; exact RP_mono h.I p v r
  | .ptr b i off, v, hb, r => by simp only [R, V.bd] at r hb ⊢; rw [h.φ b hb, h.σ b hb]; exact r
  | .row b n full, v, hb, r => by simp only [R, V.bd] at r hb ⊢; rw [h.φ b hb, h.κ b hb, h.σ b hb]; exact r
  | .agg cs, v, hb, r => by
    simp only [R, V.bd] at r hb ⊢
    obtain ⟨us, e, h1, r⟩ := r
    exact ⟨us, e, h1, RL_mono h cs _ hb r⟩
  | .tup cs, v, hb, r => by
    simp only [R, V.bd] at r hb ⊢
    obtain ⟨us, e, r⟩ := r
    exact ⟨us, e, RL_mono h cs _ hb r⟩
  | .fn f cs, v, hb, r => by
    simp only [R, V.bd] at r hb ⊢
    obtain ⟨us, e, r⟩ := r
    exact ⟨us, e, RL_mono h cs _ hb r⟩
theorem RL_mono {S : Nat → Prop} {G G' : Gh} (h : Gh.le S G G') : ∀ (cs : List V) (us : List Value), V.bdL S cs → RL G cs us → RL G' cs us
  | [], us, _, r => by simpa [RL] using r
  | c :: cs, us, hb, r => by
    simp only [RL, V.bdL] at r hb ⊢
    obtain ⟨u, us', e, r1, r2⟩ := r
    exact ⟨u, us', e, R_mono h c u hb.1 r1, RL_mono h cs us' hb.2 r2⟩
end

mutual
theorem V.bd_mono {S T : Nat → Prop} (h : ∀ b, S b → T b) : ∀ (c : V), c.bd S → c.bd T
  | .junk, _ => by simp [V.bd]
  | .pv p, _ => by simp [V.bd]
  | .ptr b i off, hb => by simp only [V.bd] at hb ⊢; exact h b hb
  | .row b n full, hb => by simp only [V.bd] at hb ⊢; exact h b hb
  | .agg cs, hb => by simp only [V.bd] at hb ⊢; exact V.bdL_mono h cs hb
  | .tup cs, hb => by simp only [V.bd] at hb ⊢; exact V.bdL_mono h cs hb
  | .fn f cs, hb => by simp only [V.bd] at hb ⊢; exact V.bdL_mono h cs hb
theorem V.bdL_mono {S T : Nat → Prop} (h : ∀ b, S b → T b) : ∀ (cs : List V), V.bdL S cs → V.bdL T cs
  | [], _ => by simp [V.bdL]
  | c :: cs, hb => by simp only [V.bdL] at hb ⊢; exact ⟨V.bd_mono h c hb.1, V.bdL_mono h cs hb.2⟩
end

theorem RL_length {G : Gh} : ∀ {cs : List V} {us : List Value}, RL G cs us → us.length = cs.length
  | [], us, r => by simp [RL] at r; simp [r]
  | c :: cs, us, r => by
    simp only [RL] at r
    obtain ⟨u, us', rfl, r1, r2⟩ := r
    simp [RL_length r2]
theorem RL_get {G : Gh} : ∀ {cs : List V} {us : List Value}, RL G cs us → ∀ (i : Nat) c, cs[i]? = some c → ∃ u, us[i]? = some u ∧ R G c u
  | [], us, r, i, c, h => by simp at h
  | d :: cs, us, r, i, c, h => by
    simp only [RL] at r
    obtain ⟨u, us', rfl, r1, r2⟩ := r
    cases i with
    | zero => simp at h; subst h; exact ⟨u, by simp, r1⟩
    | succ i => obtain ⟨v, e, rv⟩ := RL_get r2 i c (by simpa using h); exact ⟨v, by simpa using e, rv⟩
theorem RL_of {G : Gh} : ∀ {cs : List V} {us : List Value}, us.length = cs.length → (∀ (i : Nat) c u, cs[i]? = some c → us[i]? = some u → R G c u) → RL G cs us
  | [], us, hl, h => by simpa [RL] using hl
  | c :: cs, us, hl, h => by
    cases us with
    | nil => simp at hl
    | cons u us =>
      simp only [RL]
      exact ⟨u, us, rfl, h 0 c u (by simp) (by simp), RL_of (by simpa using hl) fun i c' u' h1 h2 => h (i + 1) c' u' (by simpa using h1) (by simpa using h2)⟩
theorem RPL_length {I : Imm} : ∀ {cs : List PV} {us : List Value}, RPL I cs us → us.length = cs.length
  | [], us, r => by simp [RPL] at r; simp [r]
  | c :: cs, us, r => by
    simp only [RPL] at r
    obtain ⟨u, us', rfl, r1, r2⟩ := r
    simp [RPL_length r2]
theorem RPL_get {I : Imm} : ∀ {cs : List PV} {us : List Value}, RPL I cs us → ∀ (i : Nat) c, cs[i]? = some c → ∃ u, us[i]? = some u ∧ RP I c u
  | [], us, r, i, c, h => by simp at h
  | d :: cs, us, r, i, c, h => by
    simp only [RPL] at r
    obtain ⟨u, us', rfl, r1, r2⟩ := r
    cases i with
    | zero => simp at h; subst h; exact ⟨u, by simp, r1⟩
    | succ i => obtain ⟨v, e, rv⟩ := RPL_get r2 i c (by simpa using h); exact ⟨v, by simpa using e, rv⟩
theorem RPL_of {I : Imm} : ∀ {cs : List PV} {us : List Value}, us.length = cs.length → (∀ (i : Nat) c u, cs[i]? = some c → us[i]? = some u → RP I c u) → RPL I cs us
  | [], us, hl, h => by simpa [RPL] using hl
  | c :: cs, us, hl, h => by
    cases us with
    | nil => simp at hl
    | cons u us =>
      simp only [RPL]
      exact ⟨u, us, rfl, h 0 c u (by simp) (by simp), RPL_of (by simpa using hl) fun i c' u' h1 h2 => h (i + 1) c' u' (by simpa using h1) (by simpa using h2)⟩
theorem RPC_iff {I : Imm} {ad : Addr} : ∀ {cs : List PV} {k : Nat}, RPC I ad k cs ↔ ∀ (i : Nat) c, cs[i]? = some c → ∃ u, I (ad.add (k + i)) = some u ∧ u.oneCell' = true ∧ RP I c u
  | [], k => by simp [RPC]
  | d :: cs, k => by
    simp only [RPC, RPC_iff (cs := cs)]
    constructor
    · rintro ⟨h0, h⟩ i c hc
      cases i with
      | zero => simp at hc; subst hc; simpa using h0
      | succ i => have := h i c (by simpa using hc); rwa [show k + (i + 1) = k + 1 + i by omega]
    · intro h
      refine ⟨by simpa using h 0 d (by simp), fun i c hc => ?_⟩
      have := h (i + 1) c (by simpa using hc)
      rwa [show k + (i + 1) = k + 1 + i by omega] at this
theorem RPE_iff {I : Imm} {ad : Addr} {sz : Nat} : ∀ {xs : List PV} {k : Nat}, RPE I ad k sz xs ↔ ∀ (i : Nat) x, xs[i]? = some x → x.cells.length = sz ∧ RPC I ad (k + i * sz) x.cells
  | [], k => by simp [RPE]
  | d :: xs, k => by
    simp only [RPE_cons, RPE_iff (xs := xs)]
    constructor
    · rintro ⟨h0, h1, h⟩ i c hc
      cases i with
      | zero => simp at hc; subst hc; simpa using ⟨h0, h1⟩
      | succ i => have := h i c (by simpa using hc); rwa [show k + (i + 1) * sz = k + sz + i * sz by rw [Nat.add_mul]; omega]
    · intro h
      have h0 := h 0 d (by simp)
      refine ⟨h0.1, by simpa using h0.2, fun i c hc => ?_⟩
      have := h (i + 1) c (by simpa using hc)
      rwa [show k + (i + 1) * sz = k + sz + i * sz by rw [Nat.add_mul]; omega] at this

/-- a block of cells: may it be written no more? its elements' type, how many cells an element has, what the elements hold -/
structure Blk where
  ro : Bool
  ty : TypeId
  sz : Nat
  xs : List (List V)
  /-- which machine block it is, how many cells that has, how many an element has: where that was said -/
  tag : Option (Nat × Nat × Nat)

abbrev HF := Nat → Option Blk

/-- what a block's cells hold -/
structure BlkRel (G : Gh) (b : Nat) (k : Blk) (arr : Array Value) : Prop where
  sz : k.sz = G.σ b
  size : arr.size = G.κ b
  fits : k.xs.length * k.sz ≤ arr.size
  len : ∀ (i : Nat) cs, k.xs[i]? = some cs → cs.length = k.sz
  cell : ∀ (i j : Nat) cs c, k.xs[i]? = some cs → cs[j]? = some c → ∃ u, arr[i * k.sz + j]? = some u ∧ u.oneCell' = true ∧ R G c u
  ro : k.ro = true → ∀ (i : Nat), i < k.xs.length * k.sz → G.I ⟨G.φ b, i, none⟩ = arr[i]?
  tag : ∀ m, k.tag = some m → m = (G.φ b, G.κ b, G.σ b)

/-- an abstract memory stands for a world's -/
structure Rel (S : Nat → Prop) (G : Gh) (h : HF) (w : World) : Prop where
  imm : ImmOk G.I w
  blk : ∀ b k, h b = some k → ∃ arr, w.heap[G.φ b]? = some (.cells arr k.ty (0, 0)) ∧ BlkRel G b k arr
  inj : ∀ b b' k k', h b = some k → h b' = some k' → G.φ b = G.φ b' → b = b'
  sep : ∀ b k, h b = some k → k.ro = false → ∀ a v, G.I a = some v → a.block ≠ G.φ b
  live : ∀ b k, h b = some k → S b
  bd : ∀ b k, h b = some k → ∀ cs ∈ k.xs, V.bdL S cs

/-- what a step may do to a world: of the blocks that were there only those turn that may be written -/
structure Tr (G : Gh) (h : HF) (w : World) (G' : Gh) (h' : HF) (w' : World) : Prop where
  os : w'.os = w.os
  tape : w'.tape = w.tape
  output : w'.output = w.output
  size : w.heap.size ≤ w'.heap.size
  I : G.I.le G'.I
  old : ∀ k, k < w.heap.size → (∀ b blk, h b = some blk → blk.ro = false → G.φ b ≠ k) → w'.heap[k]? = w.heap[k]?
  muts : ∀ b blk, h' b = some blk → blk.ro = false → G'.φ b < w.heap.size → ∃ b0 blk0, h b0 = some blk0 ∧ blk0.ro = false ∧ G.φ b0 = G'.φ b
  lives : ∀ b blk, h' b = some blk → G'.φ b < w.heap.size → ∃ b0 blk0, h b0 = some blk0 ∧ G.φ b0 = G'.φ b
  inew : ∀ a v, G'.I a = some v → a.block < w.heap.size → G.I a = some v ∨ ∃ b blk, h b = some blk ∧ G.φ b = a.block

theorem Tr.refl (G : Gh) (h : HF) (w : World) : Tr G h w G h w := ⟨rfl, rfl, rfl, Nat.le_refl _, Imm.le.refl _, fun _ _ _ => rfl, fun b blk h1 h2 _ => ⟨b, blk, h1, h2, rfl⟩, fun b blk h1 _ => ⟨b, blk, h1, rfl⟩, fun a v e _ => .inl e⟩
theorem Tr.trans {G G1 G2 : Gh} {h h1 h2 : HF} {w w1 w2 : World} (x : Tr G h w G1 h1 w1) (y : Tr G1 h1 w1 G2 h2 w2) : Tr G h w G2 h2 w2 := by
  refine ⟨y.os.trans x.os, y.tape.trans x.tape, y.output.trans x.output, Nat.le_trans x.size y.size, x.I.trans y.I, fun k hk hn => ?_, fun b blk hb hr hlt => ?_, fun b blk hb hlt => ?_, fun a v e hlt => ?_⟩
  · rw [y.old k (Nat.lt_of_lt_of_le hk x.size) fun b blk hb hr e => ?_, x.old k hk hn]
    obtain ⟨b0, blk0, h0, hr0, e0⟩ := x.muts b blk hb hr (by omega)
    exact hn b0 blk0 h0 hr0 (e0.trans e)
  · obtain ⟨b1, blk1, hb1, hr1, e1⟩ := y.muts b blk hb hr (Nat.lt_of_lt_of_le hlt x.size)
    obtain ⟨b0, blk0, h0, hr0, e0⟩ := x.muts b1 blk1 hb1 hr1 (by omega)
    exact ⟨b0, blk0, h0, hr0, e0.trans e1⟩
  · obtain ⟨b1, blk1, hb1, e1⟩ := y.lives b blk hb (Nat.lt_of_lt_of_le hlt x.size)
    obtain ⟨b0, blk0, h0, e0⟩ := x.lives b1 blk1 hb1 (by omega)
    exact ⟨b0, blk0, h0, e0.trans e1⟩
  · rcases y.inew a v e (Nat.lt_of_lt_of_le hlt x.size) with e1 | ⟨b1, blk1, hb1, e1⟩
    · exact x.inew a v e1 hlt
    · obtain ⟨b0, blk0, h0, e0⟩ := x.lives b1 blk1 hb1 (by omega)
      exact .inr ⟨b0, blk0, h0, e0.trans e1⟩
theorem Tr.drew {G G1 : Gh} {h h1 : HF} {w w1 : World} (x : Tr G h w G1 h1 w1) : Tr G h w G1 h1 w1.drew := ⟨x.os, x.tape, x.output, x.size, x.I, x.old, x.muts, x.lives, x.inew⟩
theorem Rel.drew {S : Nat → Prop} {G : Gh} {h : HF} {w : World} (x : Rel S G h w) : Rel S G h w.drew := ⟨⟨x.imm.ok, x.imm.laid⟩, x.blk, x.inj, x.sep, x.live, x.bd⟩
end Go.Ab
/- The abstract memory's steps: a new block, a cell stored, an append, a block that is written no more; each with what it does to the world. -/
set_option linter.unusedVariables false
set_option linter.unusedSimpArgs false
namespace Go.Ab
open Go.RowKit

def upd (h : HF) (b : Nat) (k : Option Blk) : HF := fun x => if x = b then k else h x
theorem upd_same (h : HF) (b : Nat) (k : Option Blk) : upd h b k b = k := by simp [upd]
theorem upd_other (h : HF) {b x : Nat} (k : Option Blk) (e : x ≠ b) : upd h b k x = h x := by simp [upd, e]

theorem Rel.lt {S G h w} (r : Rel S G h w) {b k} (hb : h b = some k) : G.φ b < w.heap.size := by
  obtain ⟨arr, e, _⟩ := r.blk b k hb
  exact (Array.getElem?_eq_some_iff.1 e).1
theorem Rel.imm_lt {S G h w} (r : Rel S G h w) {a v} (e : G.I a = some v) : a.block < w.heap.size := World.block_lt_of_cell? w a (r.imm.ok a v e)

theorem BlkRel.mono {S : Nat → Prop} {G G' : Gh} {b : Nat} {k : Blk} {arr : Array Value} (r : BlkRel G b k arr) (hle : Gh.le S G G') (hS : S b) (hbd : ∀ cs ∈ k.xs, V.bdL S cs) : BlkRel G' b k arr := by
  refine ⟨r.sz.trans (hle.σ b hS).symm, r.size.trans (hle.κ b hS).symm, r.fits, r.len, fun i j cs c h1 h2 => ?_, fun hro i hi => ?_, fun m hm => ?_⟩
  · obtain ⟨u, e1, e2, e3⟩ := r.cell i j cs c h1 h2
    refine ⟨u, e1, e2, R_mono hle c u ?_ e3⟩
    have := hbd cs (List.mem_of_getElem? h1)
    exact bdL_get this (List.mem_of_getElem? h2)
  · have h0 := r.ro hro i hi
    have hlt : i < arr.size := Nat.lt_of_lt_of_le hi r.fits
    rw [hle.φ b hS]
    rw [Array.getElem?_eq_getElem hlt] at h0 ⊢
    exact hle.I _ _ h0
  · rw [r.tag m hm, hle.φ b hS, hle.κ b hS, hle.σ b hS]
where
  bdL_get {S : Nat → Prop} : ∀ {cs : List V} {c : V}, V.bdL S cs → c ∈ cs → c.bd S
    | [], _, _, h => by cases h
    | d :: cs, c, hb, h => by
      simp only [V.bdL] at hb
      rcases List.mem_cons.1 h with rfl | h
      · exact hb.1
      · exact bdL_get hb.2 h

theorem bdL_iff {S : Nat → Prop} {cs : List V} : V.bdL S cs ↔ ∀ c ∈ cs, c.bd S := by
  induction cs with
  | nil => simp [V.bdL]
  | cons c cs ih => simp [V.bdL, ih]

/-- the ghost behind a new block -/
def Gh.new (G : Gh) (nb : Nat) (g n sz : Nat) : Gh :=
  { G with φ := fun b => if b = nb then g else G.φ b, κ := fun b => if b = nb then n else G.κ b, σ := fun b => if b = nb then sz else G.σ b }
theorem Gh.new_le {S : Nat → Prop} {G : Gh} {nb g n sz : Nat} (hn : ¬ S nb) : Gh.le S G (G.new nb g n sz) := by
  refine ⟨fun b hb => ?_, fun b hb => ?_, fun b hb => ?_, Imm.le.refl _⟩ <;> (simp only [Gh.new]; rw [if_neg (by rintro rfl; exact hn hb)])

def SS (S : Nat → Prop) (nb : Nat) : Nat → Prop := fun b => S b ∨ b = nb

/-- a new block of cells -/
theorem Rel.alloc {S G h w} (r : Rel S G h w) {nb : Nat} (hn : ¬ S nb) (ty : TypeId) (sz : Nat) (arr : Array Value) (xs : List (List V))
    (hlen : ∀ (i : Nat) cs, xs[i]? = some cs → cs.length = sz) (hfit : xs.length * sz ≤ arr.size)
    (hc : ∀ (i j : Nat) cs c, xs[i]? = some cs → cs[j]? = some c → ∃ u, arr[i * sz + j]? = some u ∧ u.oneCell' = true ∧ R G c u) (hbd : ∀ cs ∈ xs, V.bdL S cs) :
    Rel (SS S nb) (G.new nb w.heap.size arr.size sz) (upd h nb (some ⟨false, ty, sz, xs, none⟩)) (w.alloc (.cells arr ty)) ∧
    Tr G h w (G.new nb w.heap.size arr.size sz) (upd h nb (some ⟨false, ty, sz, xs, none⟩)) (w.alloc (.cells arr ty)) := by
  have hle : Gh.le S G (G.new nb w.heap.size arr.size sz) := Gh.new_le hn
  have hφ : ∀ b, b ≠ nb → (G.new nb w.heap.size arr.size sz).φ b = G.φ b := fun b e => by simp [Gh.new, e]
  have hφn : (G.new nb w.heap.size arr.size sz).φ nb = w.heap.size := by simp [Gh.new]
  have hne : ∀ b k, h b = some k → b ≠ nb := fun b k e => by rintro rfl; exact hn (r.live _ _ e)
  have hSS : ∀ b, S b → SS S nb b := fun b hb => .inl hb
  refine ⟨⟨⟨fun a v e => ?_, r.imm.laid⟩, fun b k e => ?_, fun b b' k k' e e' eφ => ?_, fun b k e hro a v ea => ?_, fun b k e => ?_, fun b k e => ?_⟩, ⟨rfl, rfl, rfl, by simp, Imm.le.refl _, fun k hk _ => Below.heap_alloc w _ k hk, fun b blk e hro hlt => ?_, fun b blk e hlt => ?_, fun a v e _ => .inl e⟩⟩
  · rw [World.cell?_alloc_lt _ _ _ (r.imm_lt e)]; exact r.imm.ok a v e
  · by_cases hb : b = nb
    · subst hb
      rw [upd_same] at e; cases e
      refine ⟨arr, by rw [hφn]; exact heap_alloc_new w _, ⟨by simp [Gh.new], by simp [Gh.new], hfit, hlen, fun i j cs c h1 h2 => ?_, fun h0 => by simp at h0, fun m hm => by cases hm⟩⟩
      obtain ⟨u, e1, e2, e3⟩ := hc i j cs c h1 h2
      exact ⟨u, e1, e2, R_mono hle c u (bdL_iff.1 (hbd cs (List.mem_of_getElem? h1)) c (List.mem_of_getElem? h2)) e3⟩
    · rw [upd_other _ _ hb] at e
      obtain ⟨arr', e', rr⟩ := r.blk b k e
      exact ⟨arr', by rw [hφ b hb, Below.heap_alloc w _ _ (r.lt e)]; exact e', rr.mono hle (r.live _ _ e) (r.bd _ _ e)⟩
  · by_cases hb : b = nb
    · by_cases hb' : b' = nb
      · rw [hb, hb']
      · subst hb
        rw [upd_other _ _ hb'] at e'
        rw [hφn, hφ b' hb'] at eφ
        have := r.lt e'; omega
    · rw [upd_other _ _ hb] at e
      by_cases hb' : b' = nb
      · subst hb'
        rw [hφn, hφ b hb] at eφ
        have := r.lt e; omega
      · rw [upd_other _ _ hb'] at e'
        rw [hφ b hb, hφ b' hb'] at eφ
        exact r.inj b b' k k' e e' eφ
  · have ha := r.imm_lt (a := a) (v := v) ea
    by_cases hb : b = nb
    · subst hb; rw [hφn]; omega
    · rw [upd_other _ _ hb] at e; rw [hφ b hb]; exact r.sep b k e hro a v ea
  · by_cases hb : b = nb
    · exact .inr hb
    · rw [upd_other _ _ hb] at e; exact .inl (r.live b k e)
  · by_cases hb : b = nb
    · subst hb; rw [upd_same] at e; cases e; exact fun cs hcs => V.bdL_mono hSS cs (hbd cs hcs)
    · rw [upd_other _ _ hb] at e; exact fun cs hcs => V.bdL_mono hSS cs (r.bd b k e cs hcs)
  · by_cases hb : b = nb
    · subst hb; rw [hφn] at hlt; omega
    · rw [upd_other _ _ hb] at e; rw [hφ b hb]; exact ⟨b, blk, e, hro, rfl⟩
  · by_cases hb : b = nb
    · subst hb; rw [hφn] at hlt; omega
    · rw [upd_other _ _ hb] at e; rw [hφ b hb]; exact ⟨b, blk, e, rfl⟩

theorem cell_arr {w : World} {g i : Nat} {arr : Array Value} {ty : TypeId} {fr : Nat × Nat} (h : w.heap[g]? = some (.cells arr ty fr)) : w.cell? ⟨g, i, none⟩ = arr[i]? := by
  simp [World.cell?, h]

/-- one cell of a block that may be written -/
theorem Rel.setCell {S G h w} (r : Rel S G h w) {b : Nat} {k : Blk} (hb : h b = some k) (hro : k.ro = false) {i j : Nat} {cs : List V} (hi : k.xs[i]? = some cs) (hj : j < cs.length)
    (c : V) (u : Value) (hu : R G c u) (h1 : u.oneCell' = true) (hbd : c.bd S) :
    (w.cell? ⟨G.φ b, i * G.σ b + j, none⟩).isSome = true ∧ w.frozen? ⟨G.φ b, i * G.σ b + j, none⟩ = false ∧
    Rel S G (upd h b (some { k with xs := k.xs.set i (cs.set j c) })) (w.setCell ⟨G.φ b, i * G.σ b + j, none⟩ u) ∧
    Tr G h w G (upd h b (some { k with xs := k.xs.set i (cs.set j c) })) (w.setCell ⟨G.φ b, i * G.σ b + j, none⟩ u) := by
  obtain ⟨arr, e, rr⟩ := r.blk b k hb
  obtain ⟨u0, eu0, _, _⟩ := rr.cell i j cs _ hi (List.getElem?_eq_getElem hj)
  have hlt : i * k.sz + j < arr.size := (Array.getElem?_eq_some_iff.1 eu0).1
  have hi' : i < k.xs.length := (List.getElem?_eq_some_iff.1 hi).1
  have hlen : cs.length = k.sz := rr.len i cs hi
  have hcell : w.cell? ⟨G.φ b, i * G.σ b + j, none⟩ = some u0 := by rw [cell_arr e, ← rr.sz]; exact eu0
  have hset : (w.setCell ⟨G.φ b, i * G.σ b + j, none⟩ u).heap[G.φ b]? = some (.cells (arr.setIfInBounds (i * k.sz + j) u) k.ty (0, 0)) := by
    simp only [World.setCell, Array.getElem?_modify, if_true, e, ← rr.sz]
    simp
  refine ⟨by rw [hcell]; rfl, by simp [World.frozen?, e], ⟨⟨fun a v ea => ?_, r.imm.laid⟩, fun b' k' e' => ?_, fun b1 b2 k1 k2 e1 e2 eφ => ?_, fun b' k' e' hro' a v ea => ?_, fun b' k' e' => ?_, fun b' k' e' => ?_⟩,
    ⟨rfl, rfl, rfl, by simp, Imm.le.refl _, fun n hn hno => Below.heap_setCell _ _ _ _ fun hh => hno b k hb hro hh.symm, fun b' k' e' hro' hlt' => ?_, fun b' k' e' hlt' => ?_, fun a v e _ => .inl e⟩⟩
  · have hne := r.sep b k hb hro a v ea
    rw [World.cell?_setCell_other]
    · exact r.imm.ok a v ea
    · intro he; rw [← he] at hne; exact hne rfl
  · by_cases hbb : b' = b
    · subst hbb
      rw [upd_same] at e'; cases e'
      refine ⟨_, hset, ⟨rr.sz, by simp [rr.size], by simp [rr.fits], fun n ds hn => ?_, fun n m ds d hn hm => ?_, fun h0 => by simp [hro] at h0, rr.tag⟩⟩
      · simp only [List.getElem?_set] at hn
        split at hn
        · first
            | (cases hn; simpa using hlen)
            | (split at hn
               · cases hn; simpa using hlen
               · simp at hn)
        · exact rr.len n ds hn
      · simp only [List.getElem?_set] at hn
        by_cases hni : i = n
        · subst hni
          simp only [if_true, hi', Option.some.injEq] at hn
          subst hn
          simp only [List.getElem?_set] at hm
          by_cases hjm : j = m
          · subst hjm
            simp only [if_true, hj, Option.some.injEq] at hm
            subst hm
            exact ⟨u, by simp [Array.getElem?_setIfInBounds, hlt], h1, hu⟩
          · rw [if_neg hjm] at hm
            obtain ⟨v, ev, ev1, ev2⟩ := rr.cell i m cs d hi hm
            exact ⟨v, by rw [Array.getElem?_setIfInBounds_ne (show i * k.sz + j ≠ i * k.sz + m by omega)]; exact ev, ev1, ev2⟩
        · rw [if_neg hni] at hn
          obtain ⟨v, ev, ev1, ev2⟩ := rr.cell n m ds d hn hm
          refine ⟨v, ?_, ev1, ev2⟩
          rw [Array.getElem?_setIfInBounds_ne ?_]
          · exact ev
          · have hmlt : m < k.sz := by rw [← rr.len n ds hn]; exact (List.getElem?_eq_some_iff.1 hm).1
            rw [hlen] at hj
            intro he
            apply hni
            have h2 : (i * k.sz + j) / k.sz = (n * k.sz + m) / k.sz := by rw [he]
            rw [Nat.mul_comm i, Nat.mul_comm n, Nat.mul_add_div (by omega), Nat.mul_add_div (by omega), Nat.div_eq_of_lt hj, Nat.div_eq_of_lt hmlt] at h2
            omega
    · rw [upd_other _ _ hbb] at e'
      obtain ⟨arr', ea', rr'⟩ := r.blk b' k' e'
      refine ⟨arr', ?_, rr'⟩
      rw [Below.heap_setCell _ _ _ _ fun hh => hbb (r.inj b' b k' k e' hb hh)]
      exact ea'
  · have f : ∀ b' k', upd h b (some { k with xs := k.xs.set i (cs.set j c) }) b' = some k' → ∃ k0, h b' = some k0 := fun b' k' e' => by
      by_cases hbb : b' = b
      · subst hbb; exact ⟨k, hb⟩
      · rw [upd_other _ _ hbb] at e'; exact ⟨k', e'⟩
    obtain ⟨x1, f1⟩ := f _ _ e1
    obtain ⟨x2, f2⟩ := f _ _ e2
    exact r.inj b1 b2 x1 x2 f1 f2 eφ
  · by_cases hbb : b' = b
    · subst hbb; exact r.sep b' k hb hro a v ea
    · rw [upd_other _ _ hbb] at e'; exact r.sep b' k' e' hro' a v ea
  · by_cases hbb : b' = b
    · subst hbb; exact r.live b' k hb
    · rw [upd_other _ _ hbb] at e'; exact r.live b' k' e'
  · by_cases hbb : b' = b
    · subst hbb
      rw [upd_same] at e'; cases e'
      intro ds hds
      rcases List.mem_or_eq_of_mem_set hds with hds | rfl
      · exact r.bd b' k hb ds hds
      · refine bdL_iff.2 fun d hd => ?_
        rcases List.mem_or_eq_of_mem_set hd with hd | rfl
        · exact bdL_iff.1 (r.bd b' k hb cs (List.mem_of_getElem? hi)) d hd
        · exact hbd
    · rw [upd_other _ _ hbb] at e'; exact r.bd b' k' e'
  · by_cases hbb : b' = b
    · subst hbb; exact ⟨b', k, hb, hro, rfl⟩
    · rw [upd_other _ _ hbb] at e'; exact ⟨b', k', e', hro', rfl⟩
  · by_cases hbb : b' = b
    · subst hbb; exact ⟨b', k, hb, rfl⟩
    · rw [upd_other _ _ hbb] at e'; exact ⟨b', k', e', rfl⟩

/-- a block of which less is known -/
theorem Rel.trunc {S G h w} (r : Rel S G h w) {b : Nat} {k : Blk} (hb : h b = some k) (u : Nat) :
    Rel S G (upd h b (some { k with xs := k.xs.take u })) w ∧ Tr G h w G (upd h b (some { k with xs := k.xs.take u })) w := by
  have f : ∀ b' k', upd h b (some { k with xs := k.xs.take u }) b' = some k' → ∃ k0, h b' = some k0 ∧ k'.ro = k0.ro := fun b' k' e' => by
    by_cases hbb : b' = b
    · subst hbb; rw [upd_same] at e'; cases e'; exact ⟨k, hb, rfl⟩
    · rw [upd_other _ _ hbb] at e'; exact ⟨k', e', rfl⟩
  have tk : ∀ (i : Nat) cs, (k.xs.take u)[i]? = some cs → k.xs[i]? = some cs := fun i cs e => by
    rw [List.getElem?_take] at e
    split at e
    · exact e
    · cases e
  refine ⟨⟨r.imm, fun b' k' e' => ?_, fun b1 b2 k1 k2 e1 e2 eφ => ?_, fun b' k' e' hro a v ea => ?_, fun b' k' e' => ?_, fun b' k' e' => ?_⟩,
    ⟨rfl, rfl, rfl, Nat.le_refl _, Imm.le.refl _, fun _ _ _ => rfl, fun b' k' e' hro _ => ?_, fun b' k' e' _ => ?_, fun a v e _ => .inl e⟩⟩
  · by_cases hbb : b' = b
    · subst hbb
      rw [upd_same] at e'; cases e'
      obtain ⟨arr, e, rr⟩ := r.blk b' k hb
      refine ⟨arr, e, rr.sz, rr.size, ?_, fun i cs hi => rr.len i cs (tk i cs hi), fun i j cs c hi hj => rr.cell i j cs c (tk i cs hi) hj, fun hro i hi => rr.ro hro i ?_, rr.tag⟩
      · refine Nat.le_trans (Nat.mul_le_mul_right _ ?_) rr.fits
        simp only [List.length_take]; exact Nat.min_le_right _ _
      · refine Nat.lt_of_lt_of_le hi (Nat.mul_le_mul_right _ ?_)
        simp only [List.length_take]; exact Nat.min_le_right _ _
    · rw [upd_other _ _ hbb] at e'; exact r.blk b' k' e'
  · obtain ⟨x1, f1, _⟩ := f _ _ e1
    obtain ⟨x2, f2, _⟩ := f _ _ e2
    exact r.inj b1 b2 x1 x2 f1 f2 eφ
  · obtain ⟨x1, f1, f2⟩ := f _ _ e'
    exact r.sep b' x1 f1 (f2 ▸ hro) a v ea
  · obtain ⟨x1, f1, _⟩ := f _ _ e'
    exact r.live b' x1 f1
  · by_cases hbb : b' = b
    · subst hbb
      rw [upd_same] at e'; cases e'
      exact fun cs hcs => r.bd b' k hb cs (List.mem_of_mem_take hcs)
    · rw [upd_other _ _ hbb] at e'; exact r.bd b' k' e'
  · obtain ⟨x1, f1, f2⟩ := f _ _ e'
    exact ⟨b', x1, f1, f2 ▸ hro, rfl⟩
  · obtain ⟨x1, f1, _⟩ := f _ _ e'
    exact ⟨b', x1, f1, rfl⟩
/-- new cells from place j on -/
def spl (cs : List V) (j : Nat) : List V → List V
  | [] => cs
  | c :: new => spl (cs.set j c) (j + 1) new
theorem length_spl : ∀ (new : List V) (cs : List V) (j : Nat), (spl cs j new).length = cs.length
  | [], _, _ => rfl
  | c :: new, cs, j => by rw [spl, length_spl new, List.length_set]

theorem upd_upd (h : HF) (b : Nat) (k k' : Option Blk) : upd (upd h b k) b k' = upd h b k' := by
  funext x; by_cases hx : x = b <;> simp [upd, hx]
theorem upd_self (h : HF) (b : Nat) (k : Option Blk) (e : h b = k) : upd h b k = h := by
  funext x; by_cases hx : x = b <;> simp [upd, hx, e]

theorem add_plain' (g o j : Nat) : (⟨g, o, none⟩ : Addr).add j = ⟨g, o + j, none⟩ := by unfold Addr.add; split <;> simp_all

theorem Rel.storeCells {P : Program} {S : Nat → Prop} {G : Gh} : ∀ (new : List V) (us : List Value) (h : HF) (w : World) (b : Nat) (k : Blk) (i j m : Nat) (cs : List V), Rel S G h w → h b = some k → k.ro = false → k.xs[i]? = some cs →
    j + new.length ≤ cs.length → RL G new us → (∀ u ∈ us, u.oneCell' = true) → V.bdL S new → ∀ o, o + m = i * G.σ b + j →
    ∃ w', (Go.storeCells ⟨G.φ b, o, none⟩ us m).run P w = .ok () w' ∧ Rel S G (upd h b (some { k with xs := k.xs.set i (spl cs j new) })) w' ∧ Tr G h w G (upd h b (some { k with xs := k.xs.set i (spl cs j new) })) w'
  | [], us, h, w, b, k, i, j, m, cs, r, hb, hro, hi, hl, hr, h1, hbd, o, ho => by
    simp only [RL] at hr; subst hr
    have he : ({ k with xs := k.xs.set i (spl cs j []) } : Blk) = k := by
      have : k.xs.set i cs = k.xs := by
        apply List.ext_getElem?; intro n; rw [List.getElem?_set]; split
        · subst_vars; split
          · rw [hi]
          · rename_i hlt; rw [List.getElem?_eq_none (by omega)]
        · rfl
      simp [spl, this]
    rw [he, upd_self h b _ hb]
    exact ⟨w, by simp [Go.storeCells], r, Tr.refl _ _ _⟩
  | c :: new, us, h, w, b, k, i, j, m, cs, r, hb, hro, hi, hl, hr, h1, hbd, o, ho => by
    simp only [RL] at hr
    obtain ⟨u, us', rfl, hr1, hr2⟩ := hr
    simp only [V.bdL] at hbd
    have hu1 : u.oneCell' = true := h1 u (by simp)
    obtain ⟨hc, hf, r', t'⟩ := r.setCell hb hro hi (j := j) (by simp at hl; omega) c u hr1 hu1 hbd.1
    have hi' : i < k.xs.length := (List.getElem?_eq_some_iff.1 hi).1
    obtain ⟨w', hrun, r'', t''⟩ := Rel.storeCells (P := P) new us' _ _ b { k with xs := k.xs.set i (cs.set j c) } i (j + 1) (m + 1) (cs.set j c) r' (upd_same _ _ _) hro (by simp [List.getElem?_set, hi']) (by simp at hl ⊢; omega) hr2
      (fun v hv => h1 v (by simp [hv])) hbd.2 o (by omega)
    refine ⟨w', ?_, ?_, ?_⟩
    · simp only [Go.storeCells, Sem.run_bind, add_plain']
      rw [show o + m = i * G.σ b + j from ho, run_store _ _ _ _ _ hu1]
      obtain ⟨x, hx⟩ := Option.isSome_iff_exists.1 hc
      simp only [hx, hf, Bool.false_eq_true, if_false, Result.andThen_ok]
      exact hrun
    · rw [upd_upd] at r''; simpa [spl, List.set_set] using r''
    · rw [upd_upd] at t''; simpa [spl, List.set_set] using t'.trans t''
end Go.Ab
/- append, in the abstract memory. -/
set_option linter.unusedVariables false
set_option linter.unusedSimpArgs false
namespace Go.Ab
open Go.RowKit

/-- the cells of the rows ys, laid one behind the other -/
structure Src (G : Gh) (sz : Nat) (w : World) (A : Option Addr) (ys : List (List V)) : Prop where
  len : ∀ cs ∈ ys, cs.length = sz
  cells : ys = [] ∨ ∃ (ad : Addr) (news : List Value), A = some ad ∧ news.length = ys.length * sz ∧ (∀ (j : Nat) u, news[j]? = some u → w.cell? (ad.add j) = some u) ∧ (∀ u ∈ news, u.oneCell' = true) ∧
    (∀ (i j : Nat) cs c, ys[i]? = some cs → cs[j]? = some c → ∃ u, news[i * sz + j]? = some u ∧ R G c u)

/-- what stands where the grown row lies, in the old block or in a new one -/
theorem Rel.regrow {S G h w} (r : Rel S G h w) {b nb : Nat} {k : Blk} (hn : ¬ S nb) (hb : h b = some k) (hro : k.ro = false) (ys : List (List V))
    (hlen : ∀ cs ∈ ys, cs.length = k.sz) (hbd : ∀ cs ∈ ys, V.bdL S cs) {w' : World} {g cap : Nat} {cur : Array Value} (hg : w.grownBy w' (some (G.φ b)))
    (hat : g = G.φ b ∨ g = w.heap.size) (hh : w'.heap[g]? = some (.cells cur k.ty (0, 0))) (hcur : cur.size = cap * k.sz) (hcap : k.xs.length + ys.length ≤ cap) (hcm : cap ≤ maxLen) (hbig : k.xs.length + ys.length ≤ big)
    (hc : ∀ (i j : Nat) cs c, (k.xs ++ ys)[i]? = some cs → cs[j]? = some c → ∃ u, cur[i * k.sz + j]? = some u ∧ u.oneCell' = true ∧ R G c u) :
    Gh.le S G (G.new nb g cur.size k.sz) ∧ Rel (SS S nb) (G.new nb g cur.size k.sz) (upd (upd h b none) nb (some ⟨false, k.ty, k.sz, k.xs ++ ys, none⟩)) w' ∧
    Tr G h w (G.new nb g cur.size k.sz) (upd (upd h b none) nb (some ⟨false, k.ty, k.sz, k.xs ++ ys, none⟩)) w' ∧
    R (G.new nb g cur.size k.sz) (.row nb (k.xs.length + ys.length) false) (.slice (some ⟨g, 0, none⟩) (k.xs.length + ys.length) cap) := by
  have hle : Gh.le S G (G.new nb g cur.size k.sz) := Gh.new_le hn
  have hφ : ∀ b', b' ≠ nb → (G.new nb g cur.size k.sz).φ b' = G.φ b' := fun b' e => by simp [Gh.new, e]
  have hφn : (G.new nb g cur.size k.sz).φ nb = g := by simp [Gh.new]
  have hSS : ∀ b, S b → SS S nb b := fun b hb => .inl hb
  have hbnb : b ≠ nb := by rintro rfl; exact hn (r.live _ _ hb)
  have get : ∀ b' k', b' ≠ nb → upd (upd h b none) nb (some ⟨false, k.ty, k.sz, k.xs ++ ys, none⟩) b' = some k' → b' ≠ b ∧ h b' = some k' := fun b' k' e1 e => by
    rw [upd_other _ _ e1] at e
    by_cases hbb : b' = b
    · subst hbb; rw [upd_same] at e; cases e
    · rw [upd_other _ _ hbb] at e; exact ⟨hbb, e⟩
  have hlen' : ∀ (i : Nat) cs, (k.xs ++ ys)[i]? = some cs → cs.length = k.sz := fun i cs e => by
    obtain ⟨arr, _, rr⟩ := r.blk b k hb
    rw [List.getElem?_append] at e
    split at e
    · exact rr.len i cs e
    · exact hlen cs (List.mem_of_getElem? e)
  have hbd' : ∀ cs ∈ k.xs ++ ys, V.bdL S cs := fun cs e => by
    rcases List.mem_append.1 e with e | e
    · exact r.bd b k hb cs e
    · exact hbd cs e
  have keep : ∀ n, n < w.heap.size → n ≠ G.φ b → w'.heap[n]? = w.heap[n]? := fun n h1 h2 => hg.block n h1 (by simpa using h2)
  refine ⟨hle, ⟨⟨fun a v e => ?_, r.imm.laid⟩, fun b' k' e => ?_, fun b1 b2 k1 k2 e1 e2 eφ => ?_, fun b' k' e hro' a v ea => ?_, fun b' k' e => ?_, fun b' k' e => ?_⟩,
    ⟨hg.os, hg.tape, hg.output, hg.size, Imm.le.refl _, fun n hn' hno => keep n hn' fun e => hno b k hb hro e.symm, fun b' k' e hro' hlt => ?_, fun b' k' e hlt => ?_, fun a v e _ => .inl e⟩, ?_⟩
  · have hne := r.sep b k hb hro a v e
    rw [World.cell?_of_block (w := w) (keep _ (r.imm_lt e) hne)]; exact r.imm.ok a v e
  · by_cases hb' : b' = nb
    · subst hb'
      rw [upd_same] at e; cases e
      refine ⟨cur, by rw [hφn]; exact hh, ⟨by simp [Gh.new], by simp [Gh.new], ?_, hlen', fun i j cs c h1 h2 => ?_, fun h0 => by simp at h0, fun m hm => by cases hm⟩⟩
      · rw [hcur, List.length_append]; exact Nat.mul_le_mul_right _ hcap
      · obtain ⟨u, e1, e2, e3⟩ := hc i j cs c h1 h2
        exact ⟨u, e1, e2, R_mono hle c u (bdL_iff.1 (hbd' cs (List.mem_of_getElem? h1)) c (List.mem_of_getElem? h2)) e3⟩
    · obtain ⟨hbb, e⟩ := get b' k' hb' e
      obtain ⟨arr', e', rr⟩ := r.blk b' k' e
      refine ⟨arr', ?_, rr.mono hle (r.live _ _ e) (r.bd _ _ e)⟩
      rw [hφ b' hb', keep _ (r.lt e) fun hh => hbb (r.inj b' b k' k e hb hh)]; exact e'
  · by_cases h1 : b1 = nb
    · by_cases h2 : b2 = nb
      · rw [h1, h2]
      · obtain ⟨hbb, f2⟩ := get b2 k2 h2 e2
        rw [h1, hφn, hφ b2 h2] at eφ
        rcases hat with hat | hat
        · exact absurd (r.inj b b2 k k2 hb f2 (hat.symm.trans eφ)) fun e => hbb e.symm
        · have := r.lt f2; omega
    · obtain ⟨hbb, f1⟩ := get b1 k1 h1 e1
      by_cases h2 : b2 = nb
      · rw [h2, hφn, hφ b1 h1] at eφ
        rcases hat with hat | hat
        · exact absurd (r.inj b1 b k1 k f1 hb (eφ.trans hat)) hbb
        · have := r.lt f1; omega
      · obtain ⟨hbb2, f2⟩ := get b2 k2 h2 e2
        rw [hφ b1 h1, hφ b2 h2] at eφ
        exact r.inj b1 b2 k1 k2 f1 f2 eφ
  · have ha := r.imm_lt (a := a) (v := v) ea
    by_cases hb' : b' = nb
    · subst hb'; rw [hφn]
      rcases hat with hat | hat
      · rw [hat]; exact r.sep b k hb hro a v ea
      · omega
    · obtain ⟨hbb, e⟩ := get b' k' hb' e
      rw [hφ b' hb']; exact r.sep b' k' e hro' a v ea
  · by_cases hb' : b' = nb
    · exact .inr hb'
    · exact .inl (r.live b' k' (get b' k' hb' e).2)
  · by_cases hb' : b' = nb
    · subst hb'; rw [upd_same] at e; cases e; exact fun cs hcs => V.bdL_mono hSS cs (hbd' cs hcs)
    · exact fun cs hcs => V.bdL_mono hSS cs (r.bd b' k' (get b' k' hb' e).2 cs hcs)
  · by_cases hb' : b' = nb
    · subst hb'; rw [hφn] at hlt
      rcases hat with hat | hat
      · exact ⟨b, k, hb, hro, by rw [hφn, hat]⟩
      · omega
    · obtain ⟨hbb, e⟩ := get b' k' hb' e
      rw [hφ b' hb']; exact ⟨b', k', e, hro', rfl⟩
  · by_cases hb' : b' = nb
    · subst hb'; rw [hφn] at hlt
      rcases hat with hat | hat
      · exact ⟨b, k, hb, by rw [hφn, hat]⟩
      · omega
    · obtain ⟨hbb, e⟩ := get b' k' hb' e
      rw [hφ b' hb']; exact ⟨b', k', e, rfl⟩
  · simp only [R]
    exact ⟨cap, by simp [Gh.new], hcap, hbig, hcm, by simp [Gh.new, hcur], by simp⟩

theorem run_append_zero {P : Program} (t ty e : TypeId) (i : TypeInfo) (ht : P.underlying t = some (.slice e)) (hi : P.info? e = some i) (B A : Option Addr) (n cap c : Nat) (hn : n ≤ cap) (w : World) :
    (Builtin.append_ #[t, t] ty #[.slice B n cap, .slice A 0 c]).run P w = .ok (.slice B n cap) w := by
  cases B <;> cases A <;> simp [Builtin.append_, run_underlying ht, sizeOf, typeInfo, hi, Builtin.lenOf, Builtin.firstCells, loadCells, loadCellsFrom, Go.storeCells, hn]

theorem take_get {α : Type} {l : List α} {n i : Nat} (h : i < n) : (l.take n)[i]? = l[i]? := by
  rw [List.getElem?_take, if_pos h]

/-- a row of the call's own, whole: it is used up -/
theorem Rel.append_own {P : Program} {S G h w} (r : Rel S G h w) {b nb : Nat} {k : Blk} (hn : ¬ S nb) (hb : h b = some k) (hro : k.ro = false) (cap : Nat) (hcap : k.xs.length ≤ cap) (hcm : cap ≤ maxLen) (hκ : cap * G.σ b = G.κ b)
    (t ty : TypeId) (i : TypeInfo) (z : Value) (ht : P.underlying t = some (.slice k.ty)) (hi : P.info? k.ty = some i) (hz : i.zero = some z) (hsz : i.size = k.sz) (hzs : z.cells.size = k.sz) (hpos : 0 < k.sz)
    (A : Option Addr) (c : Nat) (ys : List (List V)) (hs : Src G k.sz w A ys) (hbd : ∀ cs ∈ ys, V.bdL S cs) (hbytes : (k.xs.length + ys.length) * i.bytes ≤ 140737488355328) (hbig : k.xs.length + ys.length ≤ big) :
    ∃ u w' G', (Builtin.append_ #[t, t] ty #[.slice (some ⟨G.φ b, 0, none⟩) k.xs.length cap, .slice A ys.length c]).run P w = .ok u w' ∧ Gh.le S G G' ∧
      Rel (SS S nb) G' (upd (upd h b none) nb (some ⟨false, k.ty, k.sz, k.xs ++ ys, none⟩)) w' ∧ Tr G h w G' (upd (upd h b none) nb (some ⟨false, k.ty, k.sz, k.xs ++ ys, none⟩)) w' ∧
      R G' (.row nb (k.xs.length + ys.length) false) u := by
  obtain ⟨arr, e, rr⟩ := r.blk b k hb
  have hσ : G.σ b = k.sz := rr.sz.symm
  have harr : arr.size = cap * k.sz := by rw [rr.size, ← hκ, hσ]
  rcases hs.cells with hy | ⟨ad, news, rfl, hnl, hcell, hone, hrel⟩
  · subst hy
    obtain ⟨h1, h2, h3, h4⟩ := r.regrow (nb := nb) hn hb hro [] (by simp) (by simp) (w' := w) (g := G.φ b) (cap := cap) (cur := arr) ⟨rfl, rfl, rfl, Nat.le_refl _, fun _ _ _ => rfl⟩ (.inl rfl) e harr (by simpa using hcap) hcm (by simpa using hbig)
      (fun i j cs c h1 h2 => rr.cell i j cs c (by simpa using h1) h2)
    exact ⟨_, w, _, run_append_zero t ty k.ty i ht hi _ A _ _ c hcap w, h1, h2, h3, by simpa using h4⟩
  · have hown : w.ownsRow 0 k.ty k.sz (.slice (some ⟨G.φ b, 0, none⟩) k.xs.length cap) k.xs.length (arr.toList.take (k.xs.length * k.sz)) := by
      refine ⟨?_, .inr ⟨_, _, _, rfl, Nat.zero_le _, e, hcap, hcm, harr, rfl⟩⟩
      rw [List.length_take, Array.length_toList]
      have := Nat.mul_le_mul_right k.sz hcap
      omega
    obtain ⟨v', w', hrun, hown', hg, hnil, hat⟩ := run_append_own_at (P := P) w 0 t ty k.ty i z k.sz i.bytes ht hi hz hsz rfl hzs hpos _ _ _ hown ad ys.length c news hnl hcell hone (by unfold maxLen; unfold big at hbig; omega) hbytes (Nat.zero_le _)
    rcases hown'.2 with ⟨hv, _⟩ | ⟨g, cap', cur, hv, _, hh, hc1, hc2, hc3, htake⟩
    · have := hnil.1 hv; simp at this
    · subst hv
      have hat' : g = G.φ b ∨ g = w.heap.size := by simpa [Value.ownBlock] using hat
      have hg' : w.grownBy w' (some (G.φ b)) := by simpa [Value.ownBlock] using hg
      obtain ⟨h1, h2, h3, h4⟩ := r.regrow (nb := nb) hn hb hro ys hs.len hbd (w' := w') (g := g) (cap := cap') (cur := cur) hg' hat' hh hc3 hc1 hc2 hbig (fun i j cs c h1 h2 => by
        have hlen : cs.length = k.sz := by
          rw [List.getElem?_append] at h1
          split at h1
          · exact rr.len i cs h1
          · exact hs.len cs (List.mem_of_getElem? h1)
        have hjlt : j < k.sz := by rw [← hlen]; exact (List.getElem?_eq_some_iff.1 h2).1
        have hil : i < k.xs.length + ys.length := by have := (List.getElem?_eq_some_iff.1 h1).1; simpa using this
        have hlt : i * k.sz + j < (k.xs.length + ys.length) * k.sz := by
          have := Nat.mul_le_mul_right k.sz (show i + 1 ≤ k.xs.length + ys.length by omega)
          rw [Nat.add_mul] at this; omega
        have hcurget : cur[i * k.sz + j]? = (arr.toList.take (k.xs.length * k.sz) ++ news)[i * k.sz + j]? := by
          rw [← htake, take_get hlt, Array.getElem?_toList]
        rw [hcurget]
        have hl1 : (arr.toList.take (k.xs.length * k.sz)).length = k.xs.length * k.sz := hown.1
        rw [List.getElem?_append] at h1
        split at h1
        · rename_i hilt
          obtain ⟨u, e1, e2, e3⟩ := rr.cell i j cs c h1 h2
          have hlt2 : i * k.sz + j < k.xs.length * k.sz := by
            have := Nat.mul_le_mul_right k.sz (show i + 1 ≤ k.xs.length by omega)
            rw [Nat.add_mul] at this; omega
          refine ⟨u, ?_, e2, e3⟩
          rw [List.getElem?_append_left (by omega), take_get hlt2, Array.getElem?_toList]; exact e1
        · rename_i hige
          obtain ⟨u, e1, e3⟩ := hrel (i - k.xs.length) j cs c h1 h2
          refine ⟨u, ?_, hone u (List.mem_of_getElem? e1), e3⟩
          have hm : k.xs.length * k.sz ≤ i * k.sz := Nat.mul_le_mul_right _ (by omega)
          rw [List.getElem?_append_right (by omega), hl1, ← e1, Nat.sub_mul]
          congr 1; omega)
      exact ⟨_, w', _, hrun, h1, h2, h3, h4⟩

/-- onto nothing: a new row -/
theorem Rel.append_new {P : Program} {S G h w} (r : Rel S G h w) {nb : Nat} (hn : ¬ S nb) (sz : Nat) (e : TypeId)
    (t ty : TypeId) (i : TypeInfo) (z : Value) (ht : P.underlying t = some (.slice e)) (hi : P.info? e = some i) (hz : i.zero = some z) (hsz : i.size = sz) (hzs : z.cells.size = sz) (hpos : 0 < sz)
    (B A : Option Addr) (c n : Nat) (xs ys : List (List V)) (hxs : xs.length = n) (hsx : Src G sz w B xs) (hs : Src G sz w A ys) (hne : ys ≠ []) (hbdx : ∀ cs ∈ xs, V.bdL S cs) (hbd : ∀ cs ∈ ys, V.bdL S cs)
    (hB : n = 0 → B = none) (hbytes : (n + ys.length) * i.bytes ≤ 140737488355328) (hbig : n + ys.length ≤ big) :
    ∃ u w' G', (Builtin.append_ #[t, t] ty #[.slice B n n, .slice A ys.length c]).run P w = .ok u w' ∧ Gh.le S G G' ∧
      Rel (SS S nb) G' (upd h nb (some ⟨false, e, sz, xs ++ ys, none⟩)) w' ∧ Tr G h w G' (upd h nb (some ⟨false, e, sz, xs ++ ys, none⟩)) w' ∧
      R G' (.row nb (n + ys.length) false) u := by
  subst hsz
  subst hxs
  rcases hs.cells with hy | ⟨ad, news, rfl, hnl, hcell, hone, hrel⟩
  · exact absurd hy hne
  have hpos' : 0 < ys.length := List.length_pos_iff.2 hne
  have hm1 : xs.length + ys.length ≤ maxLen := by unfold maxLen; unfold big at hbig; omega
  -- what is there before: its cells
  have hold : ∃ olds : List Value, olds.length = xs.length * i.size ∧ (∀ (i' j : Nat) cs c, xs[i']? = some cs → cs[j]? = some c → ∃ u, olds[i' * i.size + j]? = some u ∧ u.oneCell' = true ∧ R G c u) ∧
      (Builtin.append_ #[t, t] ty #[.slice B xs.length xs.length, .slice (some ad) ys.length c]).run P w =
        .ok (.slice (some ⟨w.heap.size, 0, none⟩) (xs.length + ys.length) (grownCap w (xs.length + ys.length) xs.length e))
          (w.drew.alloc (.cells (olds.toArray ++ news.toArray ++ Builtin.zeroCells z.cells (grownCap w (xs.length + ys.length) xs.length e - (xs.length + ys.length))) e)) := by
    rcases hsx.cells with hx | ⟨bd, olds, rfl, hol, hoc, hoo, hor⟩
    · subst hx
      have hB' : B = none := hB rfl
      subst hB'
      refine ⟨[], by simp, by simp, ?_⟩
      have hr := run_append_nil (P := P) w t ty e i z ht hi hz ad ys.length c news hnl hcell hpos' (by simp only [List.length_nil, Nat.zero_add, maxLen] at hm1; omega) (by simp only [List.length_nil, Nat.zero_add] at hbytes; omega)
      simpa using hr
    · refine ⟨olds, hol, fun i' j cs c h1 h2 => ?_, ?_⟩
      · obtain ⟨u, e1, e2⟩ := hor i' j cs c h1 h2
        exact ⟨u, e1, hoo u (List.mem_of_getElem? e1), e2⟩
      · exact run_append_grow (P := P) w t ty e i z ht hi hz bd xs.length xs.length olds hol hoc ad ys.length c news hnl hcell (by omega) (by simp only [maxLen] at hm1; omega) (growslice_fits (by omega) hbytes)
  obtain ⟨olds, hol, hoc, hrun⟩ := hold
  have hge := grownCap_ge w (xs.length + ys.length) xs.length e
  have hcm := grownCap_le_maxLen w (xs.length + ys.length) xs.length e hm1
  generalize grownCap w (xs.length + ys.length) xs.length e = gc at *
  have hsize : (olds.toArray ++ news.toArray ++ Builtin.zeroCells z.cells (gc - (xs.length + ys.length))).size = gc * i.size := by
    simp only [Array.size_append, List.size_toArray, size_zeroCells, hzs, hol, hnl, ← Nat.add_mul]
    congr 1; omega
  have hlen' : ∀ (i' : Nat) cs, (xs ++ ys)[i']? = some cs → cs.length = i.size := fun i' cs e => by
    rw [List.getElem?_append] at e
    split at e
    · exact hsx.len cs (List.mem_of_getElem? e)
    · exact hs.len cs (List.mem_of_getElem? e)
  obtain ⟨h1, h2⟩ := r.drew.alloc (nb := nb) hn e i.size (olds.toArray ++ news.toArray ++ Builtin.zeroCells z.cells (gc - (xs.length + ys.length))) (xs ++ ys) hlen'
    (by rw [hsize, List.length_append]; exact Nat.mul_le_mul_right _ hge) (fun i' j cs c h1 h2 => by
      have hjlt : j < i.size := by rw [← hlen' i' cs h1]; exact (List.getElem?_eq_some_iff.1 h2).1
      have hil : i' < xs.length + ys.length := by have := (List.getElem?_eq_some_iff.1 h1).1; simpa using this
      rw [← Array.getElem?_toList]
      simp only [Array.toList_append]
      rw [List.getElem?_append] at h1
      split at h1
      · rename_i hilt
        have hlt2 : i' * i.size + j < xs.length * i.size := by
          have := Nat.mul_le_mul_right i.size (show i' + 1 ≤ xs.length by omega)
          rw [Nat.add_mul] at this; omega
        obtain ⟨u, e1, e2, e3⟩ := hoc i' j cs c h1 h2
        refine ⟨u, ?_, e2, e3⟩
        rw [List.append_assoc, List.getElem?_append_left (by omega)]; exact e1
      · rename_i hige
        obtain ⟨u, e1, e3⟩ := hrel (i' - xs.length) j cs c h1 h2
        have hlt3 := (List.getElem?_eq_some_iff.1 e1).1
        refine ⟨u, ?_, hone u (List.mem_of_getElem? e1), e3⟩
        have hm : xs.length * i.size ≤ i' * i.size := Nat.mul_le_mul_right _ (by omega)
        rw [List.append_assoc, List.getElem?_append_right (by omega), hol, List.getElem?_append_left (by rw [Nat.sub_mul] at hlt3; omega), ← e1, Nat.sub_mul]
        congr 1; omega)
    (fun cs hcs => by
      rcases List.mem_append.1 hcs with e | e
      · exact hbdx cs e
      · exact hbd cs e)
  refine ⟨_, _, _, hrun, ?_, h1, ⟨rfl, rfl, rfl, h2.size, h2.I, h2.old, h2.muts, h2.lives, h2.inew⟩, ?_⟩
  · exact Gh.new_le hn
  · simp only [R]
    exact ⟨gc, by simp [Gh.new], hge, hbig, hcm, by simp only [Gh.new, if_true]; exact hsize.symm, by simp⟩
end Go.Ab
/- The operations: a compact form of the machine's operations, and what each does to abstract values. -/
set_option linter.unusedVariables false
set_option linter.unusedSimpArgs false
namespace Go.Ab
open Go.RowKit

abbrev FV := Nat → V

structure St (N : Nat) (S : Nat → Prop) (G : Gh) (f : FV) (h : HF) (a : Act) (w : World) : Prop where
  rel : Rel S G h w
  fr : ∀ t, R G (f t) (a.tmps.getD t undef)
  bd : ∀ t, (f t).bd S
  size : a.tmps.size = N
  defers : a.defers = []

def lv (v : Value) : V := .pv (.lit v)
def cst : Value → V
  | .agg us => if us.toList.all Value.oneCell' then .pv (.agg (us.toList.map .lit)) else .junk
  | v => .pv (.lit v)
def ev (f : FV) : Operand → V
  | .tmp t => f t
  | .const v => cst v
  | .func g => .pv (.fn g [])
  | .global _ => .junk

def PV.vcells (p : PV) : List V := p.cells.map .pv

/-- the cells that a value takes in memory -/
def V.cells? : V → Option (List V)
  | .pv (.agg ps) => some (ps.map .pv)
  | .pv (.lit v) => if v.oneCell' then some [.pv (.lit v)] else none
  | .pv (.tup _) => none
  | .pv (.rptr cs) => some [.pv (.rptr cs)]
  | .pv (.list sz xs) => some [.pv (.list sz xs)]
  | .pv (.fn f cs) => some [.pv (.fn f cs)]
  | .agg cs => some cs
  | .ptr b i o => some [.ptr b i o]
  | .row b n fl => some [.row b n fl]
  | .fn f cs => some [.fn f cs]
  | .junk => none
  | .tup _ => none

/-- the kind of a struct's field that is compared -/
inductive FK where
  | int | bool | str
  deriving DecidableEq
/-- the tag of a type that is compared -/
inductive Tag where
  | int | bool | str | slice | ptr | func | flat (fs : List FK)
  deriving DecidableEq

inductive AO where
  | mov (x : Operand)
  | pick (c a b : Operand)
  | alloc (ty sz : Nat) (zero : List Value)
  | box (ty sz : Nat) (x : Operand)
  | build (zero : List Value) (places : List (Nat × Nat)) (parts : List (Nat × Operand))
  | bslice (ty sz : Nat) (zero : List Value) (len : Nat) (parts : List (Nat × Operand))
  | load (agg : Bool) (n : Nat) (x : Operand)
  | store (n : Nat) (x y : Operand)
  | nilc (x : Operand)
  | bin (op : BinOp) (tag : Tag) (x y : Operand)
  | un (op : UnOp) (x : Operand)
  | conv (k : IntKind) (x : Operand)
  | sbytes (x : Operand)
  | mkfn (f : FuncId) (caps : List Operand)
  | mkslice (ty sz : Nat) (zero : List Value) (l c : Operand)
  | slice (sz : Nat) (x : Operand) (lo hi mx : Option Operand)
  | sslice (x : Operand) (lo hi : Option Operand)
  | faddr (off : Nat) (x : Operand)
  | field (agg : Bool) (off n : Nat) (x : Operand)
  | iaddr (sz : Nat) (x i : Operand)
  | sindex (x i : Operand)
  | ext (x : Operand) (k : Nat)
  | slen (str : Bool) (x : Operand)
  | app (ty sz : Nat) (x y : Operand)
  | appz (ty sz : Nat) (zero : List Value) (x y : Operand)
  | capn (x : Operand)
  | bad
  | minmax (mn : Bool) (x y : Operand)
  | mkmap
  | lookup (agg : Bool) (zero : List Value) (ok : Bool) (x k : Operand)
  | mupd (x k y : Operand)
  | mentry (x : Operand)
  | mrange (x : Operand)
  | mnext (x : Operand)
  | call (fx : Operand) (args : List Operand)

def zShape (g : Bool) : Value → Bool
  | .agg _ => g
  | _ => !g
section compile
variable (P : Program)
def isAggB (t : TypeId) : Option Bool :=
  match P.underlying t with
  | some (.struct _) => some true
  | some (.array _ _) => some true
  | some _ => some false
  | none => none
/-- a type's cells, at least one, its zero value spelled out -/
def zeroOf (t : TypeId) : Option (Nat × List Value) :=
  match P.info? t with
  | some i => match i.zero with
    | some z => if 0 < i.size ∧ z.cells.size = i.size ∧ z.cells.toList.all Value.oneCell' = true then some (i.size, z.cells.toList) else none
    | none => none
  | none => none
def fkOf (t : TypeId) : Option FK :=
  match P.underlying t with
  | some (.int _) => some .int
  | some .bool => some .bool
  | some .string => some .str
  | _ => none
def flatOf : Nat → List Field → Option (List FK)
  | _, [] => some []
  | o, f :: fs => if f.name ≠ "_" ∧ f.offset = o then match fkOf P f.type, flatOf (o + 1) fs with
    | some k, some l => some (k :: l)
    | _, _ => none else none
def tagOf (t : TypeId) : Option Tag :=
  match P.underlying t with
  | some (.int _) => some .int
  | some .bool => some .bool
  | some .string => some .str
  | some (.slice _) => some .slice
  | some (.pointer _) => some .ptr
  | some (.func _ _ _) => some .func
  | some (.struct fs) => if P.stoodInHeld t = false ∧ P.eqGuardType P.depth t = false then (flatOf P 0 fs.toList).map .flat else none
  | _ => none
def compOp : Op → Option AO
  | .move x => some (.mov x)
  | .assign x => some (.mov x)
  | .pick c a b => some (.pick c a b)
  | .alloc e => match zeroOf P e with
    | some (n, z) => some (.alloc e n z)
    | none => none
  | .box e x => match zeroOf P e with
    | some (n, _) => some (.box e n x)
    | none => none
  | .build t parts => match P.info? t, P.underlying t with
    | some i, some (.struct fields) => match i.zero, fields.toList.mapM (fun f => (P.info? f.type).map fun i => (f.offset, i.size)) with
      | some z, some places => if z.cells.toList.all Value.oneCell' = true then some (.build z.cells.toList places parts.toList) else none
      | _, _ => none
    | _, _ => none
  | .buildSlice t len parts => match P.underlying t with
    | some (.slice e) => match zeroOf P e with
      | some (n, z) => if len * n ≤ 2 ^ 24 ∧ parts.toList.all (fun p => p.1 < len) then some (.bslice e n z len parts.toList) else none
      | none => none
    | _ => none
  | .load t x => match isAggB P t, P.info? t with
    | some g, some i => if g = true ∨ i.size = 1 then some (.load g i.size x) else none
    | _, _ => none
  | .store t x y => match P.info? t with
    | some i => some (.store i.size x y)
    | none => none
  | .nilCheck x => some (.nilc x)
  | .binOp op t x y _ => match tagOf P t with
    | some g => some (.bin op g x y)
    | none => none
  | .unOp op _ x => some (.un op x)
  | .convert src dst x => match P.underlying src, P.underlying dst with
    | some (.int _), some (.int k) => some (.conv k x)
    | some .string, some (.slice e) => match P.underlying e with
      | some (.int .u8) => some (.sbytes x)
      | _ => none
    | _, _ => none
  | .makeFunc (.func f) first caps => if first.size = 0 then some (.mkfn f caps.toList) else none
  | .makeSlice t l c => match P.underlying t with
    | some (.slice e) => match P.info? e, zeroOf P e with
      | some i, some (n, z) => if i.bytes ≤ 128 then some (.mkslice e n z l c) else none
      | _, _ => none
    | _ => none
  | .slice t x lo hi mx => match P.underlying t with
    | some (.slice e) => match P.info? e with
      | some i => if 0 < i.size ∧ (mx.isNone = true ∨ hi.isSome = true) then some (.slice i.size x lo hi mx) else none
      | none => none
    | some .string => if mx.isNone then some (.sslice x lo hi) else none
    | _ => none
  | .fieldAddr t x k => match P.underlying t with
    | some (.struct fs) => match fs[k]? with
      | some f => match P.info? f.type with
        | some i => if 0 < i.size then some (.faddr f.offset x) else none
        | none => none
      | none => none
    | _ => none
  | .field t x k => match P.underlying t with
    | some (.struct fs) => match fs[k]? with
      | some f => match isAggB P f.type, P.info? f.type with
        | some g, some i => some (.field g f.offset i.size x)
        | _, _ => none
      | none => none
    | _ => none
  | .indexAddr t x i => match P.underlying t with
    | some (.slice e) => match P.info? e with
      | some j => if 0 < j.size then some (.iaddr j.size x i) else none
      | none => none
    | _ => none
  | .index t x i => match P.underlying t with
    | some .string => some (.sindex x i)
    | _ => none
  | .extract x k => some (.ext x k)
  | .call c => match c.callee with
    | .value f => some (.call f c.args.toList)
    | .builtin .len => match c.args.toList, c.argTypes.toList with
      | [x], [t] => match P.underlying t with
        | some .string => some (.slen true x)
        | some (.slice _) => some (.slen false x)
        | _ => none
      | _, _ => none
    | .builtin .append => match c.args.toList, c.argTypes.toList with
      | [x, y], [t, t'] => if t = t' then match P.underlying t with
          | some (.slice e) => match P.info? e, zeroOf P e with
            | some i, some (n, _) => if i.bytes ≤ 128 then some (.app e n x y) else none
            | _, _ => none
          | _ => none
        else match P.underlying t, P.underlying t' with
          | some (.slice e), some (.int _) => match P.info? e, zeroOf P e with
            | some i, some (n, z) => if i.bytes ≤ 128 then some (.appz e n z x y) else none
            | _, _ => none
          | _, _ => none
      | _, _ => none
    | .builtin .cap => match c.args.toList, c.argTypes.toList with
      | [x], [t] => match P.underlying t with
        | some (.slice _) => some (.capn x)
        | _ => none
      | _, _ => none
    | .builtin .min => match c.args.toList with
      | [x, y] => some (.minmax true x y)
      | _ => none
    | .builtin .max => match c.args.toList with
      | [x, y] => some (.minmax false x y)
      | _ => none
    | _ => none
  | .makeMap _ none => some .mkmap
  | .lookup t x i ok => match P.underlying t with
    | some (.map k e) => match P.underlying k, zeroOf P e, isAggB P e with
      | some (.int .i64), some (n, z), some g => if (g = true ∨ n = 1) ∧ ((P.info? e).bind (·.zero)).any (zShape g) = true then some (.lookup g z ok x i) else none
      | _, _, _ => none
    | _ => none
  | .mapUpdate t m k v => match P.underlying t with
    | some (.map kt _) => match P.underlying kt with
      | some (.int .i64) => some (.mupd m k v)
      | _ => none
    | _ => none
  | .entry x => some (.mentry x)
  | .range t x => match P.underlying t with
    | some (.map kt _) => match P.underlying kt with
      | some (.int .i64) => some (.mrange x)
      | _ => none
    | _ => none
  | .next x false => some (.mnext x)
  | .panic _ => some .bad
  | .makeInterface .. => some .bad
  | _ => none
end compile

def mkv (agg : Bool) (cs : List V) : V :=
  if agg then .agg cs else match cs with
    | [c] => c
    | _ => .junk
def mkp (agg : Bool) (cs : List PV) : PV :=
  if agg then .agg cs else match cs with
    | [c] => c
    | _ => .agg cs
def fillA (places : List (Nat × Nat)) : List V → List (Nat × V) → Option (List V)
  | cells, [] => some cells
  | cells, (i, v) :: ps => match places[i]?, v.cells? with
    | some (off, n), some cs => if cs.length = n ∧ off + n ≤ cells.length then fillA places (spl cells off cs) ps else none
    | _, _ => none
def fillE (sz : Nat) : List (List V) → List (Nat × V) → Option (List (List V))
  | xs, [] => some xs
  | xs, (i, v) :: ps => match v.cells? with
    | some cs => if cs.length = sz then fillE sz (xs.set i cs) ps else none
    | none => none

def bint (op : BinOp) (k : IntKind) (x y : Int) : Option Value :=
  match op with
  | .add => some (.int k (k.wrap (x + y)))
  | .sub => some (.int k (k.wrap (x - y)))
  | .mul => some (.int k (k.wrap (x * y)))
  | .quo => if y = 0 then none else some (.int k (k.wrap (x.tdiv y)))
  | .rem => if y = 0 then none else some (.int k (x.tmod y))
  | .eql => some (.bool (x == y))
  | .neq => some (.bool (x != y))
  | .lss => some (.bool (decide (x < y)))
  | .leq => some (.bool (decide (x ≤ y)))
  | .gtr => some (.bool (decide (x > y)))
  | .geq => some (.bool (decide (x ≥ y)))
  | _ => none
def bstr (op : BinOp) (x y : ByteArray) : Option Value :=
  match op with
  | .add => if x.size + y.size ≤ 9223372036854775807 then some (.string (x ++ y)) else none
  | .eql => some (.bool (x.toList == y.toList))
  | .neq => some (.bool (!(x.toList == y.toList)))
  | .lss => some (.bool (Op.bytesLess x.toList y.toList))
  | .leq => some (.bool (Op.bytesLess x.toList y.toList || x.toList == y.toList))
  | .gtr => some (.bool (!(Op.bytesLess x.toList y.toList || x.toList == y.toList)))
  | .geq => some (.bool (!(Op.bytesLess x.toList y.toList)))
  | _ => none
def beq? (op : BinOp) (b : Bool) : Option Value :=
  match op with
  | .eql => some (.bool b)
  | .neq => some (.bool (!b))
  | _ => none
/-- is it nil? where that is known -/
def V.nil? : V → Option Bool
  | .pv (.lit (.slice none 0 0)) => some true
  | .pv (.lit (.pointer none)) => some true
  | .pv (.lit .nilFunc) => some true
  | .pv (.rptr _) => some false
  | .pv (.list _ (_ :: _)) => some false
  | .pv (.fn _ _) => some false
  | .ptr _ _ _ => some false
  | .row _ _ _ => some false
  | .fn _ _ => some false
  | _ => none
def litsP : List PV → Option (List Value)
  | [] => some []
  | .lit v :: ps => (litsP ps).map (v :: ·)
  | _ => none
def litsV : List V → Option (List Value)
  | [] => some []
  | .pv (.lit v) :: ps => (litsV ps).map (v :: ·)
  | _ => none
def litsOf : V → Option (List Value)
  | .pv (.agg ps) => litsP ps
  | .agg cs => litsV cs
  | _ => none
def flatEq : List FK → List Value → List Value → Option Bool
  | [], [], [] => some true
  | .int :: fs, .int k a :: xs, .int k' b :: ys => if k = k' then (flatEq fs xs ys).map fun r => (a == b) && r else none
  | .bool :: fs, .bool a :: xs, .bool b :: ys => (flatEq fs xs ys).map fun r => (a == b) && r
  | .str :: fs, .string a :: xs, .string b :: ys => (flatEq fs xs ys).map fun r => (a == b) && r
  | _, _, _ => none
def flatV (fs : List FK) (x y : V) : Option Bool :=
  match litsOf x, litsOf y with
  | some a, some b => flatEq fs a b
  | _, _ => none
/-- a comparison with nil, where it is decided; of two structs -/
def nilEq : Tag → V → V → Option Bool
  | .flat fs, x, y => flatV fs x y
  | .slice, .pv (.lit (.slice none 0 0)), .pv (.lit (.slice none 0 0)) => some true
  | .slice, .pv (.list _ (_ :: _)), .pv (.lit (.slice none 0 0)) => some false
  | .slice, .pv (.lit (.slice (some _) _ _)), .pv (.lit (.slice none 0 0)) => some false
  | .slice, .row _ _ _, .pv (.lit (.slice none 0 0)) => some false
  | .ptr, .pv (.lit (.pointer none)), .pv (.lit (.pointer none)) => some true
  | .ptr, .pv (.rptr _), .pv (.lit (.pointer none)) => some false
  | .ptr, .ptr _ _ _, .pv (.lit (.pointer none)) => some false
  | .func, .pv (.lit .nilFunc), .pv (.lit .nilFunc) => some true
  | .func, .pv (.fn _ _), .pv (.lit .nilFunc) => some false
  | .func, .fn _ _, .pv (.lit .nilFunc) => some false
  | _, _, _ => none
def optK (r : Option Value) (K : V → Prop) : Prop :=
  match r with
  | some v => K (.pv (.lit v))
  | none => False
/-- a test, an arithmetic operation -/
def binK (op : BinOp) (tag : Tag) (x y : V) (K : V → Prop) : Prop :=
  match x, y with
  | .pv (.lit (.int k a)), .pv (.lit (.int k' b)) => tag = .int ∧ k = k' ∧ optK (bint op k a b) K
  | .pv (.lit (.string a)), .pv (.lit (.string b)) => tag = .str ∧ optK (bstr op a b) K
  | .pv (.lit (.bool a)), .pv (.lit (.bool b)) => tag = .bool ∧ optK (beq? op (a == b)) K
  | x, y => match nilEq tag x y with
    | some b => optK (beq? op b) K
    | none => False

abbrev Kont := V → List Nat → List (Nat × Option Blk) → Prop

/-- the elements of a slice that is appended -/
def srcK (sz : Nat) (h : HF) (y : V) (K : List (List V) → List Nat → Prop) : Prop :=
  match y with
  | .pv (.list sz' xs) => sz' = sz ∧ (∀ x ∈ xs, x.cells.length = sz) ∧ K (xs.map PV.vcells) []
  | .pv (.lit (.slice none 0 0)) => K [] []
  | .pv (.lit (.slice (some _) 0 _)) => K [] []
  | .row b m _ => match h b with
    | some k => k.sz = sz ∧ m ≤ k.xs.length ∧ K (k.xs.take m) [b]
    | none => False
  | _ => False
def optE (f : FV) : Option Operand → Option V
  | some x => some (ev f x)
  | none => none
def loK (x : Option V) (K : Nat → Prop) : Prop :=
  match x with
  | none => K 0
  | some (.pv (.lit (.int _ i))) => ∃ n : Nat, i = n ∧ K n
  | _ => False
def hiK (x : Option V) (len : Nat) (K : Nat → Prop) : Prop :=
  match x with
  | none => K len
  | some (.pv (.lit (.int _ i))) => ∃ n : Nat, i = n ∧ K n
  | _ => False

/-- one operation: its value, the blocks whose contents it looks at, the blocks that turn -/
def AS (o : AO) (nb : Nat) (f : FV) (h : HF) (K : Kont) : Prop :=
  match o with
  | .mov x => K (ev f x) [] []
  | .pick c a b => match ev f c with
    | .pv (.lit (.bool t)) => K (if t then ev f a else ev f b) [] []
    | _ => False
  | .alloc ty sz zero => K (.ptr nb 0 0) [] [(nb, some ⟨false, ty, sz, [zero.map lv], none⟩)]
  | .box ty sz x => match (ev f x).cells? with
    | some cs => cs.length = sz ∧ K (.ptr nb 0 0) [] [(nb, some ⟨false, ty, sz, [cs], none⟩)]
    | none => False
  | .build zero places parts => match fillA places (zero.map lv) (parts.map fun p => (p.1, ev f p.2)) with
    | some cs => K (.agg cs) [] []
    | none => False
  | .bslice ty sz zero len parts => match fillE sz (List.replicate len (zero.map lv)) (parts.map fun p => (p.1, ev f p.2)) with
    | some xs => K (.row nb len true) [] [(nb, some ⟨false, ty, sz, xs, none⟩)]
    | none => False
  | .load agg n x => match ev f x with
    | .ptr b i off => match h b with
      | some k => match k.xs[i]? with
        | some cs => off + n ≤ cs.length ∧ K (mkv agg ((cs.drop off).take n)) [b] []
        | none => False
      | none => False
    | .pv (.rptr cs) => n ≤ cs.length ∧ K (.pv (mkp agg (cs.take n))) [] []
    | _ => False
  | .store n x y => match ev f x, (ev f y).cells? with
    | .ptr b i off, some new => match h b with
      | some k => match k.xs[i]? with
        | some cs => k.ro = false ∧ new.length = n ∧ off + n ≤ cs.length ∧ K (lv undef) [b] [(b, some { k with xs := k.xs.set i (spl cs off new) })]
        | none => False
      | none => False
    | _, _ => False
  | .nilc x => match (ev f x).nil? with
    | some false => K (ev f x) [] []
    | _ => False
  | .bin op tag x y => binK op tag (ev f x) (ev f y) fun v => K v [] []
  | .un op x => match op, ev f x with
    | .neg, .pv (.lit (.int k a)) => K (.pv (.lit (.int k (k.wrap (0 - a))))) [] []
    | .not, .pv (.lit (.bool b)) => K (.pv (.lit (.bool (!b)))) [] []
    | _, _ => False
  | .sbytes x => match ev f x with
    | .pv (.lit (.string s)) => s.size ≤ big ∧ K (.pv (.list 1 (s.data.toList.map fun b => .lit (.int .u8 b.toNat)))) [] []
    | _ => False
  | .conv k x => match ev f x with
    | .pv (.lit (.int _ a)) => K (.pv (.lit (.int k (k.wrap a)))) [] []
    | _ => False
  | .mkfn g caps => K (.fn g (caps.map (ev f))) [] []
  | .mkslice ty sz zero l c => match ev f l, ev f c with
    | .pv (.lit (.int _ a)), .pv (.lit (.int _ b)) => ∃ n m : Nat, a = n ∧ b = m ∧ n ≤ m ∧ m ≤ big ∧ K (.row nb n (n == m)) [] [(nb, some ⟨false, ty, sz, List.replicate n (zero.map lv), none⟩)]
    | _, _ => False
  | .slice sz x lo hi mx => loK (optE f lo) fun l => match ev f x with
    | .pv (.list sz' xs) => sz' = sz ∧ hiK (optE f hi) xs.length fun u => hiK (optE f mx) xs.length fun m => l ≤ u ∧ u ≤ m ∧ m ≤ xs.length ∧ K (.pv (.list sz ((xs.take u).drop l))) [] []
    | .pv (.lit (.slice none 0 0)) => hiK (optE f hi) 0 fun u => hiK (optE f mx) 0 fun m => l = 0 ∧ u = 0 ∧ m = 0 ∧ K (.pv (.lit (.slice none 0 0))) [] []
    | .row b n _ => l = 0 ∧ mx = none ∧ hiK (optE f hi) n fun u => u ≤ n ∧ match h b with
      | some k => K (.row b u false) [b] [(b, some { k with xs := k.xs.take u })]
      | none => False
    | _ => False
  | .sslice x lo hi => loK (optE f lo) fun l => match ev f x with
    | .pv (.lit (.string s)) => hiK (optE f hi) s.size fun u => l ≤ u ∧ u ≤ s.size ∧ K (.pv (.lit (.string (s.extract l u)))) [] []
    | _ => False
  | .faddr off x => match ev f x with
    | .ptr b i o => K (.ptr b i (o + off)) [] []
    | .pv (.rptr cs) => K (.pv (.rptr (cs.drop off))) [] []
    | _ => False
  | .field agg off n x => match ev f x with
    | .agg cs => off + n ≤ cs.length ∧ (agg = true ∨ n = 1) ∧ K (mkv agg ((cs.drop off).take n)) [] []
    | .pv (.agg cs) => off + n ≤ cs.length ∧ (agg = true ∨ n = 1) ∧ K (.pv (mkp agg ((cs.drop off).take n))) [] []
    | _ => False
  | .iaddr sz x i => match ev f x, ev f i with
    | .pv (.list sz' xs), .pv (.lit (.int _ a)) => sz' = sz ∧ ∃ (n : Nat) (e : PV), a = n ∧ xs[n]? = some e ∧ K (.pv (.rptr e.cells)) [] []
    | .row b m _, .pv (.lit (.int _ a)) => match h b with
      | some k => k.sz = sz ∧ ∃ n : Nat, a = n ∧ n < m ∧ K (.ptr b n 0) [b] []
      | none => False
    | _, _ => False
  | .sindex x i => match ev f x, ev f i with
    | .pv (.lit (.string s)), .pv (.lit (.int _ a)) => ∃ (n : Nat) (c : UInt8), a = n ∧ s[n]? = some c ∧ K (.pv (.lit (.int .u8 c.toNat))) [] []
    | _, _ => False
  | .ext x k => match ev f x with
    | .tup vs => match vs[k]? with
      | some v => K v [] []
      | none => False
    | .pv (.tup vs) => match vs[k]? with
      | some v => K (.pv v) [] []
      | none => False
    | _ => False
  | .slen str x => match ev f x with
    | .pv (.list _ xs) => str = false ∧ K (.pv (.lit (.int .i64 xs.length))) [] []
    | .pv (.lit (.slice none 0 0)) => str = false ∧ K (.pv (.lit (.int .i64 0))) [] []
    | .pv (.lit (.slice (some _) n _)) => str = false ∧ K (.pv (.lit (.int .i64 n))) [] []
    | .pv (.lit (.string s)) => str = true ∧ K (.pv (.lit (.int .i64 s.size))) [] []
    | .row _ n _ => str = false ∧ K (.pv (.lit (.int .i64 n))) [] []
    | _ => False
  | .app ty sz x y => srcK sz h (ev f y) fun ys rd => match ev f x with
    | .pv (.lit (.slice none 0 0)) => (ys = [] ∧ K (.pv (.lit (.slice none 0 0))) rd []) ∨ (ys ≠ [] ∧ ys.length ≤ big ∧ K (.row nb ys.length false) rd [(nb, some ⟨false, ty, sz, ys, none⟩)])
    | .row b n full => match h b with
      | some k => k.ty = ty ∧ k.sz = sz ∧ k.xs.length = n ∧ n + ys.length ≤ big ∧
        if k.ro = true then full = true ∧ 0 < n ∧ ys ≠ [] ∧ K (.row nb (n + ys.length) false) (b :: rd) [(nb, some ⟨false, ty, sz, k.xs ++ ys, none⟩)]
        else K (.row nb (n + ys.length) false) (b :: rd) [(b, none), (nb, some ⟨false, ty, sz, k.xs ++ ys, none⟩)]
      | none => False
    | _ => False
  | .minmax mn x y => match ev f x, ev f y with
    | .pv (.lit (.int k a)), .pv (.lit (.int k' b)) => K (.pv (.lit (.int k (if mn then (if b < a then b else a) else (if b > a then b else a))))) [] []
    | _, _ => False
  | .appz ty sz zero x y => match ev f x, ev f y with
    | .pv (.lit (.slice none 0 0)), .pv (.lit (.int _ a)) => ∃ n : Nat, a = n ∧ 0 < n ∧ n ≤ big ∧ K (.row nb n false) [] [(nb, some ⟨false, ty, sz, List.replicate n (zero.map lv), none⟩)]
    | _, _ => False
  | .capn x => match ev f x with
    | .pv (.lit (.slice none 0 0)) => K (.pv (.lit (.int .i64 0))) [] []
    | _ => False
  | .bad => False
  | .mkmap => False
  | .lookup .. => False
  | .mupd .. => False
  | .mentry .. => False
  | .mrange .. => False
  | .mnext .. => False
  | .call _ _ => False

def updD (h : HF) : List (Nat × Option Blk) → HF
  | [] => h
  | (b, k) :: δ => updD (upd h b k) δ
def SD (S : Nat → Prop) (δ : List (Nat × Option Blk)) : Nat → Prop := fun b => S b ∨ ∃ k, (b, some k) ∈ δ

/-- what comes of an operation in the machine -/
def Outc (S : Nat → Prop) (G : Gh) (h : HF) (w : World) (res : Result Next) (v : V) (δ : List (Nat × Option Blk)) : Prop :=
  ∃ u w' G', (res = .ok (.value u) w' ∨ (res = .ok .skip w' ∧ u = undef)) ∧ Gh.le S G G' ∧ Rel (SD S δ) G' (updD h δ) w' ∧ Tr G h w G' (updD h δ) w' ∧ R G' v u ∧ v.bd (SD S δ)
end Go.Ab
/- Each operation does in the machine what it does to abstract values. -/
set_option linter.unusedVariables false
set_option linter.unusedSimpArgs false
namespace Go.Ab
open Go.RowKit

theorem RPL_lits {I : Imm} : ∀ (us : List Value), RPL I (us.map .lit) us
  | [] => by simp [RPL]
  | u :: us => by simp only [List.map_cons, RPL]; exact ⟨u, us, rfl, by simp [RP], RPL_lits us⟩
theorem RL_lits {G : Gh} : ∀ (us : List Value), RL G (us.map lv) us
  | [] => by simp [RL]
  | u :: us => by simp only [List.map_cons, RL]; exact ⟨u, us, rfl, by simp [R, lv, RP], RL_lits us⟩
theorem RL_pv {G : Gh} : ∀ {cs : List PV} {us : List Value}, RL G (cs.map .pv) us ↔ RPL G.I cs us
  | [], us => by simp [RL, RPL]
  | c :: cs, us => by simp only [List.map_cons, RL, RPL, R, RL_pv (cs := cs)]
theorem bdL_lits {S : Nat → Prop} (us : List Value) : V.bdL S (us.map lv) := bdL_iff.2 fun c hc => by
  obtain ⟨u, _, rfl⟩ := List.mem_map.1 hc; simp [lv, V.bd]
theorem bdL_pv {S : Nat → Prop} (cs : List PV) : V.bdL S (cs.map .pv) := bdL_iff.2 fun c hc => by
  obtain ⟨u, _, rfl⟩ := List.mem_map.1 hc; simp [V.bd]

theorem cst_R (G : Gh) (v : Value) : R G (cst v) v := by
  cases v <;> simp only [cst, R, RP]
  case agg us =>
    split
    · rename_i h
      simp only [R, RP]
      exact ⟨us, rfl, fun u hu => List.all_eq_true.1 h u hu, RPL_lits _⟩
    · simp [R]
theorem cst_bd (S : Nat → Prop) (v : Value) : (cst v).bd S := by
  cases v <;> simp only [cst, V.bd]
  case agg us => split <;> simp [V.bd]
theorem St.ev {N S G f h a w} (st : St N S G f h a w) (x : Operand) : R G (ev f x) (a.eval x) := by
  cases x with
  | tmp t => exact st.fr t
  | const v => exact cst_R G v
  | func g => simp only [Ab.ev, R, RP, Act.eval]; exact ⟨#[], rfl, by simp [RPL]⟩
  | global g => simp [Ab.ev, R]
theorem St.evbd {N S G f h a w} (st : St N S G f h a w) (x : Operand) : (Ab.ev f x).bd S := by
  cases x with
  | tmp t => exact st.bd t
  | const v => exact cst_bd S v
  | func g => simp [Ab.ev, V.bd]
  | global g => simp [Ab.ev, V.bd]

theorem cells_R {G : Gh} {v : V} {cs : List V} {u : Value} (hv : v.cells? = some cs) (r : R G v u) : RL G cs u.cells.toList ∧ ∀ u' ∈ u.cells.toList, u'.oneCell' = true := by
  have one : ∀ (c : V) (u : Value), R G c u → u.oneCell' = true → RL G [c] u.cells.toList ∧ ∀ u' ∈ u.cells.toList, u'.oneCell' = true := fun c u r h => by
    have : u.cells = #[u] := by cases u <;> first | rfl | simp [Value.oneCell'] at h
    rw [this]
    exact ⟨by simp only [RL]; exact ⟨u, [], rfl, r, rfl⟩, by simpa using h⟩
  cases v with
  | junk => simp [V.cells?] at hv
  | tup vs => simp [V.cells?] at hv
  | agg ds =>
    simp only [V.cells?, Option.some.injEq] at hv; subst hv
    simp only [R] at r
    obtain ⟨us, rfl, h1, r⟩ := r
    exact ⟨r, h1⟩
  | ptr b i o =>
    simp only [V.cells?, Option.some.injEq] at hv; subst hv
    refine one _ u r ?_
    simp only [R] at r; subst r; rfl
  | row b n fl =>
    simp only [V.cells?, Option.some.injEq] at hv; subst hv
    refine one _ u r ?_
    simp only [R] at r; obtain ⟨cap, rfl, _⟩ := r; rfl
  | fn g caps =>
    simp only [V.cells?, Option.some.injEq] at hv; subst hv
    refine one _ u r ?_
    simp only [R] at r; obtain ⟨us, rfl, _⟩ := r; rfl
  | pv p =>
    cases p with
    | agg ps =>
      simp only [V.cells?, Option.some.injEq] at hv; subst hv
      simp only [R, RP] at r
      obtain ⟨us, rfl, h1, r⟩ := r
      exact ⟨RL_pv.2 r, h1⟩
    | lit x =>
      simp only [V.cells?] at hv
      split at hv
      · rename_i hx
        simp only [Option.some.injEq] at hv; subst hv
        refine one _ u r ?_
        simp only [R, RP] at r; subst r; exact hx
      · cases hv
    | tup ps => simp [V.cells?] at hv
    | rptr ps =>
      simp only [V.cells?, Option.some.injEq] at hv; subst hv
      refine one _ u r ?_
      simp only [R, RP] at r; obtain ⟨ad, rfl, _⟩ := r; rfl
    | list sz ps =>
      simp only [V.cells?, Option.some.injEq] at hv; subst hv
      refine one _ u r ?_
      simp only [R, RP] at r; obtain ⟨a, n, cap, rfl, _⟩ := r; rfl
    | fn g ps =>
      simp only [V.cells?, Option.some.injEq] at hv; subst hv
      refine one _ u r ?_
      simp only [R, RP] at r; obtain ⟨us, rfl, _⟩ := r; rfl
theorem cells_bd {S : Nat → Prop} {v : V} {cs : List V} (hv : v.cells? = some cs) (b : v.bd S) : V.bdL S cs := by
  cases v with
  | junk => simp [V.cells?] at hv
  | tup vs => simp [V.cells?] at hv
  | agg ds => simp only [V.cells?, Option.some.injEq] at hv; subst hv; simpa [V.bd] using b
  | ptr c i o => simp only [V.cells?, Option.some.injEq] at hv; subst hv; simpa [V.bd, V.bdL] using b
  | row c n fl => simp only [V.cells?, Option.some.injEq] at hv; subst hv; simpa [V.bd, V.bdL] using b
  | fn g caps => simp only [V.cells?, Option.some.injEq] at hv; subst hv; simpa [V.bd, V.bdL] using b
  | pv p =>
    cases p with
    | agg ps => simp only [V.cells?, Option.some.injEq] at hv; subst hv; exact bdL_pv ps
    | lit x =>
      simp only [V.cells?] at hv
      split at hv
      · simp only [Option.some.injEq] at hv; subst hv; simp [V.bd, V.bdL]
      · cases hv
    | tup ps => simp [V.cells?] at hv
    | rptr ps => simp only [V.cells?, Option.some.injEq] at hv; subst hv; simp [V.bd, V.bdL]
    | list sz ps => simp only [V.cells?, Option.some.injEq] at hv; subst hv; simp [V.bd, V.bdL]
    | fn g ps => simp only [V.cells?, Option.some.injEq] at hv; subst hv; simp [V.bd, V.bdL]

theorem Rel.monoS {S T : Nat → Prop} {G h w} (hST : ∀ b, S b → T b) (r : Rel S G h w) : Rel T G h w :=
  ⟨r.imm, r.blk, r.inj, r.sep, fun b k e => hST b (r.live b k e), fun b k e cs hcs => V.bdL_mono hST cs (r.bd b k e cs hcs)⟩

theorem outc_pure {N S G f h a w} (st : St N S G f h a w) {res : Result Next} {v : V} {u : Value} (hr : res = .ok (.value u) w) (hR : R G v u) (hb : v.bd S) : Outc S G h w res v [] :=
  ⟨u, w, G, .inl hr, Gh.le.refl S G, st.rel.monoS fun b hb => .inl hb, Tr.refl _ _ _, hR, V.bd_mono (fun b hb => .inl hb) _ hb⟩

/-- an operation is sound -/
def Snd (P : Program) (op : Op) (nb : Nat) (f : FV) (h : HF) (K : Kont) : Prop :=
  ∃ v rd δ, K v rd δ ∧ (∀ b k, (b, k) ∈ δ → b = nb ∨ b ∈ rd) ∧ ∀ N S G f2 h2 a w, St N S G f2 h2 a w → (∀ x ∈ op.operands.toList, ev f2 x = ev f x) → (∀ b ∈ rd, h2 b = h b) → ¬ S nb →
    ∀ oper : Oper, oper.op = op → Outc S G h2 w ((execOp a.eval oper).run P w) v δ

theorem snd_pure {P : Program} {op : Op} {nb : Nat} {f : FV} {h : HF} {K : Kont} (v : V) (hK : K v [] [])
    (hs : ∀ N S G f2 h2 a w, St N S G f2 h2 a w → (∀ x ∈ op.operands.toList, ev f2 x = ev f x) → ∀ oper : Oper, oper.op = op → ∃ u, (execOp a.eval oper).run P w = .ok (.value u) w ∧ R G v u ∧ v.bd S) : Snd P op nb f h K :=
  ⟨v, [], [], hK, by simp, fun N S G f2 h2 a w st hx _ _ oper ho => by
    obtain ⟨u, h1, h2, h3⟩ := hs N S G f2 h2 a w st hx oper ho
    exact outc_pure st h1 h2 h3⟩

section
variable {P : Program} {nb : Nat} {f : FV} {h : HF} {K : Kont}

theorem snd_move {x : Operand} (hA : K (ev f x) [] []) : Snd P (.move x) nb f h K :=
  snd_pure _ hA fun N S G f2 h2 a w st hx oper ho => ⟨a.eval x, by simp [execOp, ho], hx x (by simp [Op.operands]) ▸ st.ev x, hx x (by simp [Op.operands]) ▸ st.evbd x⟩
theorem snd_assign {x : Operand} (hA : K (ev f x) [] []) : Snd P (.assign x) nb f h K :=
  snd_pure _ hA fun N S G f2 h2 a w st hx oper ho => ⟨a.eval x, by simp [execOp, ho], hx x (by simp [Op.operands]) ▸ st.ev x, hx x (by simp [Op.operands]) ▸ st.evbd x⟩
theorem snd_pick {c x y : Operand} (hA : AS (.pick c x y) nb f h K) : Snd P (.pick c x y) nb f h K := by
  simp only [AS] at hA
  split at hA
  · rename_i t hc
    refine snd_pure _ hA fun N S G f2 h2 a w st hx oper ho => ?_
    have h1 := st.ev c; rw [hx c (by simp [Op.operands]), hc] at h1; simp only [R, RP] at h1
    refine ⟨if t then a.eval x else a.eval y, by simp [execOp, ho, h1, asBool], ?_, ?_⟩
    · cases t
      · exact hx y (by simp [Op.operands]) ▸ st.ev y
      · exact hx x (by simp [Op.operands]) ▸ st.ev x
    · cases t
      · exact hx y (by simp [Op.operands]) ▸ st.evbd y
      · exact hx x (by simp [Op.operands]) ▸ st.evbd x
  · exact hA.elim

theorem zeroOf_spec {t : TypeId} {n : Nat} {z : List Value} (hz : zeroOf P t = some (n, z)) :
    ∃ i v, P.info? t = some i ∧ i.zero = some v ∧ 0 < n ∧ i.size = n ∧ v.cells.size = n ∧ v.cells.toList = z ∧ z.length = n ∧ ∀ u ∈ z, u.oneCell' = true := by
  unfold zeroOf at hz
  split at hz
  · rename_i i hi
    split at hz
    · rename_i v hv
      split at hz
      · rename_i hcond
        simp only [Option.some.injEq, Prod.mk.injEq] at hz
        obtain ⟨rfl, rfl⟩ := hz
        obtain ⟨h1, h2, h3⟩ := hcond
        exact ⟨i, v, hi, hv, h1, rfl, h2, rfl, by simpa using h2, fun u hu => List.all_eq_true.1 h3 u hu⟩
      · cases hz
    · cases hz
  · cases hz

/-- a new block by an operation -/
theorem outc_alloc {N S G f2 h2 a w} (st : St N S G f2 h2 a w) (hn : ¬ S nb) (ty sz : Nat) (arr : Array Value) (xs : List (List V)) (res : Result Next) (v : V) (u : Value)
    (hr : res = .ok (.value u) (w.alloc (.cells arr ty)))
    (hlen : ∀ (i : Nat) cs, xs[i]? = some cs → cs.length = sz) (hfit : xs.length * sz ≤ arr.size)
    (hc : ∀ (i j : Nat) cs c, xs[i]? = some cs → cs[j]? = some c → ∃ u, arr[i * sz + j]? = some u ∧ u.oneCell' = true ∧ R G c u) (hbd : ∀ cs ∈ xs, V.bdL S cs)
    (hv : R (G.new nb w.heap.size arr.size sz) v u) (hvb : v.bd (SS S nb)) : Outc S G h2 w res v [(nb, some ⟨false, ty, sz, xs, none⟩)] := by
  obtain ⟨h1, h3⟩ := st.rel.alloc hn ty sz arr xs hlen hfit hc hbd
  have hS : ∀ b, SS S nb b → SD S [(nb, some ⟨false, ty, sz, xs, none⟩)] b := fun b hb => by
    rcases hb with hb | rfl
    · exact .inl hb
    · exact .inr ⟨_, List.mem_singleton.2 rfl⟩
  exact ⟨u, _, _, .inl hr, Gh.new_le hn, h1.monoS hS, h3, hv, V.bd_mono hS v hvb⟩

theorem snd_alloc {e : TypeId} {o : AO} (hc : compOp P (.alloc e) = some o) (hA : AS o nb f h K) : Snd P (.alloc e) nb f h K := by
  simp only [compOp] at hc
  split at hc
  · rename_i n z hz
    simp only [Option.some.injEq] at hc; subst hc
    simp only [AS] at hA
    obtain ⟨i, v, hi, hv, hpos, hsz, hvs, rfl, hzl, hone⟩ := zeroOf_spec hz
    refine ⟨_, [], _, hA, by simp, fun N S G f2 h2 a w st hx _ hn oper ho => ?_⟩
    refine outc_alloc st hn e n v.cells _ _ _ (.pointer (some ⟨w.heap.size, 0, none⟩)) ?_ ?_ ?_ ?_ ?_ ?_ ?_
    · simp [execOp, ho, Instr.alloc, zeroValue, typeInfo, hi, hv, newVar, newRow]
    · intro i cs h1
      cases i <;> simp at h1
      subst h1; simp [hvs]
    · simp [hvs]
    · intro i j cs c h1 h2
      cases i <;> simp at h1
      subst h1
      simp only [List.getElem?_map, Option.map_eq_some_iff] at h2
      obtain ⟨u, h3, rfl⟩ := h2
      refine ⟨u, by simpa using h3, hone u (List.mem_of_getElem? h3), by simp [R, lv, RP]⟩
    · intro cs hcs; simp at hcs; subst hcs; exact bdL_lits _
    · simp [R, Gh.new]
    · simp [V.bd, SS]
  · cases hc
theorem snd_box {e : TypeId} {x : Operand} {o : AO} (hc : compOp P (.box e x) = some o) (hA : AS o nb f h K) : Snd P (.box e x) nb f h K := by
  simp only [compOp] at hc
  split at hc
  · rename_i n z hz
    simp only [Option.some.injEq] at hc; subst hc
    simp only [AS] at hA
    split at hA
    · rename_i cs hcs
      obtain ⟨hl, hA⟩ := hA
      refine ⟨_, [], _, hA, by simp, fun N S G f2 h2 a w st hx _ hn oper ho => ?_⟩
      obtain ⟨h3, h4⟩ := cells_R hcs (hx x (by simp [Op.operands]) ▸ st.ev x)
      refine outc_alloc st hn e n (a.eval x).cells _ _ _ (.pointer (some ⟨w.heap.size, 0, none⟩)) ?_ ?_ ?_ ?_ ?_ ?_ ?_
      · simp [execOp, ho, Instr.box, newVar, newRow]
      · intro i cs h1
        cases i <;> simp at h1
        subst h1; exact hl
      · have := RL_length h3; simp at this; simp [this, hl]
      · intro i j cs c h1 h2
        cases i <;> simp at h1
        subst h1
        obtain ⟨u, h5, h6⟩ := RL_get h3 j c h2
        exact ⟨u, by simpa using h5, h4 u (List.mem_of_getElem? h5), h6⟩
      · intro cs hcs'; simp at hcs'; subst hcs'; exact cells_bd hcs (hx x (by simp [Op.operands]) ▸ st.evbd x)
      · simp [R, Gh.new]
      · simp [V.bd, SS]
    · exact hA.elim
  · cases hc
end
end Go.Ab
/- Each operation does in the machine what it does to abstract values: memory, addresses, slices. -/
set_option linter.unusedVariables false
set_option linter.unusedSimpArgs false
namespace Go.Ab
open Go.RowKit

theorem add_add (ad : Addr) (i j : Nat) : (ad.add i).add j = ad.add (i + j) := by
  unfold Addr.add
  by_cases h1 : i = 0 <;> by_cases h2 : j = 0 <;> simp [h1, h2, Nat.add_assoc]
theorem add_zero (ad : Addr) : ad.add 0 = ad := by simp [Addr.add]
theorem RPC_shift {I : Imm} {ad : Addr} {i k : Nat} {cs : List PV} : RPC I (ad.add i) k cs ↔ RPC I ad (i + k) cs := by
  simp only [RPC_iff, add_add, Nat.add_assoc]
theorem RPE_shift {I : Imm} {ad : Addr} {i k sz : Nat} {xs : List PV} : RPE I (ad.add i) k sz xs ↔ RPE I ad (i + k) sz xs := by
  simp only [RPE_iff, RPC_shift, Nat.add_assoc]
theorem RPC_list {I : Imm} {ad : Addr} : ∀ {cs : List PV} {k : Nat}, RPC I ad k cs → ∃ us : List Value, us.length = cs.length ∧ (∀ (j : Nat) u, us[j]? = some u → I (ad.add (k + j)) = some u) ∧ (∀ u ∈ us, u.oneCell' = true) ∧ RPL I cs us
  | [], k, _ => ⟨[], rfl, by simp, by simp, by simp [RPL]⟩
  | c :: cs, k, h => by
    simp only [RPC] at h
    obtain ⟨⟨u, h1, h2, h3⟩, h4⟩ := h
    obtain ⟨us, e1, e2, e3, e4⟩ := RPC_list h4
    refine ⟨u :: us, by simp [e1], fun j v hv => ?_, fun v hv => ?_, by simp only [RPL]; exact ⟨u, us, rfl, h3, e4⟩⟩
    · cases j with
      | zero => simp at hv; subst hv; simpa using h1
      | succ j => have := e2 j v (by simpa using hv); rwa [show k + (j + 1) = k + 1 + j by omega]
    · rcases List.mem_cons.1 hv with rfl | hv
      · exact h2
      · exact e3 v hv
theorem RPC_take {I : Imm} {ad : Addr} {cs : List PV} {k n : Nat} (h : RPC I ad k cs) : RPC I ad k (cs.take n) :=
  RPC_iff.2 fun i c hc => RPC_iff.1 h i c (by
    rw [List.getElem?_take] at hc
    split at hc
    · exact hc
    · cases hc)
theorem RPC_drop {I : Imm} {ad : Addr} {cs : List PV} {k n : Nat} (h : RPC I ad k cs) : RPC I ad (k + n) (cs.drop n) :=
  RPC_iff.2 fun i c hc => by
    have := RPC_iff.1 h (n + i) c (by simpa [List.getElem?_drop] using hc)
    rwa [Nat.add_assoc]
theorem RPE_take {I : Imm} {ad : Addr} {xs : List PV} {k n sz : Nat} (h : RPE I ad k sz xs) : RPE I ad k sz (xs.take n) :=
  RPE_iff.2 fun i c hc => RPE_iff.1 h i c (by
    rw [List.getElem?_take] at hc
    split at hc
    · exact hc
    · cases hc)
theorem RPE_drop {I : Imm} {ad : Addr} {xs : List PV} {k n sz : Nat} (h : RPE I ad k sz xs) : RPE I ad (k + n * sz) sz (xs.drop n) :=
  RPE_iff.2 fun i c hc => by
    have := RPE_iff.1 h (n + i) c (by simpa [List.getElem?_drop] using hc)
    rwa [Nat.add_mul, ← Nat.add_assoc] at this
theorem RL_take {G : Gh} : ∀ {cs : List V} {us : List Value} (n : Nat), RL G cs us → RL G (cs.take n) (us.take n)
  | [], us, n, h => by simp only [RL] at h; subst h; simp [RL]
  | c :: cs, us, n, h => by
    simp only [RL] at h
    obtain ⟨u, us', rfl, h1, h2⟩ := h
    cases n with
    | zero => simp [RL]
    | succ n => simp only [List.take_succ_cons, RL]; exact ⟨u, _, rfl, h1, RL_take n h2⟩
theorem RL_drop {G : Gh} : ∀ {cs : List V} {us : List Value} (n : Nat), RL G cs us → RL G (cs.drop n) (us.drop n)
  | [], us, n, h => by simp only [RL] at h; subst h; simp [RL]
  | c :: cs, us, n, h => by
    simp only [RL] at h
    obtain ⟨u, us', rfl, h1, h2⟩ := h
    cases n with
    | zero => simp only [List.drop_zero, RL]; exact ⟨u, us', rfl, h1, h2⟩
    | succ n => simpa using RL_drop n h2
theorem RPL_take {I : Imm} : ∀ {cs : List PV} {us : List Value} (n : Nat), RPL I cs us → RPL I (cs.take n) (us.take n)
  | [], us, n, h => by simp only [RPL] at h; subst h; simp [RPL]
  | c :: cs, us, n, h => by
    simp only [RPL] at h
    obtain ⟨u, us', rfl, h1, h2⟩ := h
    cases n with
    | zero => simp [RPL]
    | succ n => simp only [List.take_succ_cons, RPL]; exact ⟨u, _, rfl, h1, RPL_take n h2⟩
theorem RPL_drop {I : Imm} : ∀ {cs : List PV} {us : List Value} (n : Nat), RPL I cs us → RPL I (cs.drop n) (us.drop n)
  | [], us, n, h => by simp only [RPL] at h; subst h; simp [RPL]
  | c :: cs, us, n, h => by
    simp only [RPL] at h
    obtain ⟨u, us', rfl, h1, h2⟩ := h
    cases n with
    | zero => simp only [List.drop_zero, RPL]; exact ⟨u, us', rfl, h1, h2⟩
    | succ n => simpa using RPL_drop n h2

/-- a value made of cells -/
def mkc (agg : Bool) (us : List Value) : Value := if agg then .agg us.toArray else us.headD undef
theorem mkv_R {G : Gh} {g : Bool} {cs : List V} {us : List Value} (hr : RL G cs us) (h1 : ∀ u ∈ us, u.oneCell' = true) (hc : g = true ∨ cs.length = 1) : R G (mkv g cs) (mkc g us) := by
  unfold mkv mkc
  cases g with
  | true => simp only [if_true, R]; exact ⟨us.toArray, rfl, by simpa using h1, hr⟩
  | false =>
    simp only [Bool.false_eq_true, if_false, false_or] at hc ⊢
    match cs, hr, hc with
    | [c], hr, _ =>
      simp only [RL] at hr
      obtain ⟨u, us', rfl, r1, rfl⟩ := hr
      exact r1
theorem mkp_R {I : Imm} {g : Bool} {cs : List PV} {us : List Value} (hr : RPL I cs us) (h1 : ∀ u ∈ us, u.oneCell' = true) (hc : g = true ∨ cs.length = 1) : RP I (mkp g cs) (mkc g us) := by
  unfold mkp mkc
  cases g with
  | true => simp only [if_true, RP]; exact ⟨us.toArray, rfl, by simpa using h1, hr⟩
  | false =>
    simp only [Bool.false_eq_true, if_false, false_or] at hc ⊢
    match cs, hr, hc with
    | [c], hr, _ =>
      simp only [RPL] at hr
      obtain ⟨u, us', rfl, r1, rfl⟩ := hr
      exact r1
theorem mkv_bd {S : Nat → Prop} {g : Bool} {cs : List V} (h : V.bdL S cs) : (mkv g cs).bd S := by
  unfold mkv
  split
  · simpa [V.bd] using h
  · split
    · simpa [V.bdL] using h
    · simp [V.bd]
theorem bdL_sub {S : Nat → Prop} {cs ds : List V} (h : V.bdL S cs) (hs : ∀ c ∈ ds, c ∈ cs) : V.bdL S ds := bdL_iff.2 fun c hc => bdL_iff.1 h c (hs c hc)

section
variable {P : Program} {nb : Nat} {f : FV} {h : HF} {K : Kont}

theorem run_isAgg {t : TypeId} {g : Bool} (hg : isAggB P t = some g) (w : World) : (isAgg t).run P w = .ok g w := by
  unfold isAggB at hg
  cases hu : P.underlying t with
  | none => simp [hu] at hg
  | some d => cases d <;> simp [hu] at hg <;> subst hg <;> simp [isAgg, run_underlying hu]
theorem run_loadAt' {t : TypeId} {g : Bool} {i : TypeInfo} (hg : isAggB P t = some g) (hi : P.info? t = some i) (hcond : g = true ∨ i.size = 1) {w : World} (ad : Addr) (us : List Value) (hl : us.length = i.size)
    (hc : ∀ (j : Nat) u, us[j]? = some u → w.cell? (ad.add j) = some u) : (Instr.loadAt t (.pointer (some ad))).run P w = .ok (mkc g us) w := by
  simp only [Instr.loadAt, Instr.sureAddr, Sem.run_bind, Sem.run_pure, Result.andThen_ok, loadVar, run_isAgg hg]
  cases g with
  | true =>
    have h1 : (sizeOf t).run P w = .ok i.size w := by simp [sizeOf, typeInfo, hi]
    have h2 := run_loadCells_list (P := P) w ad us hc
    rw [hl] at h2
    simp only [if_true, Sem.run_bind, h1, Result.andThen_ok, h2, Sem.run_pure, mkc]
  | false =>
    have h1 : i.size = 1 := by simpa using hcond
    rw [h1] at hl
    match us, hl, hc with
    | [u], _, hc =>
      have := hc 0 u (by simp)
      rw [add_zero] at this
      simp [this, mkc]

theorem snd_load {t : TypeId} {x : Operand} {o : AO} (hc : compOp P (.load t x) = some o) (hA : AS o nb f h K) : Snd P (.load t x) nb f h K := by
  simp only [compOp] at hc
  split at hc
  case h_2 => cases hc
  rename_i g i hg hi
  split at hc
  case isFalse => cases hc
  rename_i hcond
  simp only [Option.some.injEq] at hc; subst hc
  simp only [AS] at hA
  split at hA
  · rename_i b i' off hx0
    split at hA
    case h_2 => exact hA.elim
    rename_i k hk
    split at hA
    case h_2 => exact hA.elim
    rename_i cs hcs
    obtain ⟨hle, hA⟩ := hA
    refine ⟨_, [b], [], hA, by simp, fun N S G f2 h2 a w st hx hr hn oper ho => ?_⟩
    have h1 := st.ev x; rw [hx x (by simp [Op.operands]), hx0] at h1; simp only [R] at h1
    have hk2 : h2 b = some k := (hr b (by simp)).trans hk
    obtain ⟨arr, e, rr⟩ := st.rel.blk b k hk2
    have key : ∃ us : List Value, us.length = i.size ∧ (∀ (j : Nat) u, us[j]? = some u → w.cell? ((⟨G.φ b, i' * G.σ b + off, none⟩ : Addr).add j) = some u) ∧ (∀ u ∈ us, u.oneCell' = true) ∧ RL G ((cs.drop off).take i.size) us := by
      have hex : ∀ j, j < i.size → ∃ u, arr[i' * k.sz + (off + j)]? = some u ∧ u.oneCell' = true ∧ R G (cs.getD (off + j) .junk) u := fun j hj => by
        obtain ⟨u, e1, e2, e3⟩ := rr.cell i' (off + j) cs (cs.getD (off + j) .junk) hcs (by rw [List.getD_eq_getElem?_getD, List.getElem?_eq_getElem (by omega)]; rfl)
        exact ⟨u, e1, e2, e3⟩
      refine ⟨(List.range i.size).map fun j => arr.getD (i' * k.sz + (off + j)) undef, by simp, fun j u hu => ?_, fun u hu => ?_, RL_of (by simp; omega) fun j c u h1 h2 => ?_⟩
      · simp only [List.getElem?_map, Option.map_eq_some_iff] at hu
        obtain ⟨j', hj', rfl⟩ := hu
        have hjlt : j < i.size := by have := (List.getElem?_eq_some_iff.1 hj').1; simpa using this
        have : j' = j := by rw [List.getElem?_range hjlt] at hj'; simpa using hj'.symm
        subst this
        obtain ⟨u, e1, _, _⟩ := hex j' hjlt
        rw [add_plain', cell_arr e, ← rr.sz, show i' * k.sz + off + j' = i' * k.sz + (off + j') by omega, e1]
        simp [e1]
      · obtain ⟨j, hj, rfl⟩ := List.mem_map.1 hu
        obtain ⟨u, e1, e2, _⟩ := hex j (by simpa using hj)
        simpa [e1] using e2
      · simp only [List.getElem?_map, Option.map_eq_some_iff] at h2
        obtain ⟨j', hj', rfl⟩ := h2
        have hjlt : j < i.size := by have := (List.getElem?_eq_some_iff.1 hj').1; simpa using this
        have : j' = j := by rw [List.getElem?_range hjlt] at hj'; simpa using hj'.symm
        subst this
        obtain ⟨u, e1, _, e3⟩ := hex j' hjlt
        rw [List.getElem?_take, if_pos hjlt, List.getElem?_drop] at h1
        rw [List.getD_eq_getElem?_getD, h1] at e3
        simpa [e1] using e3
    obtain ⟨us, e1, e2, e3, e4⟩ := key
    refine outc_pure st (u := mkc g us) ?_ (mkv_R e4 e3 ?_) ?_
    · simp [execOp, ho, h1, run_loadAt' hg hi hcond _ us e1 e2]
    · rcases hcond with hcond | hcond
      · exact .inl hcond
      · right; simp; omega
    · exact mkv_bd (bdL_sub (st.rel.bd b k hk2 cs (List.mem_of_getElem? hcs)) fun c hc => List.mem_of_mem_drop (List.mem_of_mem_take hc))
  · rename_i cs hx0
    obtain ⟨hle, hA⟩ := hA
    refine snd_pure _ hA fun N S G f2 h2 a w st hx oper ho => ?_
    have h1 := st.ev x; rw [hx x (by simp [Op.operands]), hx0] at h1; simp only [R, RP] at h1
    obtain ⟨ad, h1, h3⟩ := h1
    obtain ⟨us, e1, e2, e3, e4⟩ := RPC_list (RPC_take (n := i.size) h3)
    have hl : us.length = i.size := by rw [e1, List.length_take]; omega
    refine ⟨mkc g us, ?_, ?_, by simp [V.bd]⟩
    · simp [execOp, ho, h1, run_loadAt' hg hi hcond ad us hl fun j u hu => st.rel.imm.ok _ _ (by simpa using e2 j u hu)]
    · simp only [R]
      refine mkp_R e4 e3 ?_
      rcases hcond with hcond | hcond
      · exact .inl hcond
      · right; simp; omega
  · exact hA.elim

theorem snd_store {t : TypeId} {x y : Operand} {o : AO} (hc : compOp P (.store t x y) = some o) (hA : AS o nb f h K) : Snd P (.store t x y) nb f h K := by
  simp only [compOp] at hc
  split at hc
  case h_2 => cases hc
  rename_i ti hi
  simp only [Option.some.injEq] at hc; subst hc
  simp only [AS] at hA
  split at hA
  case h_2 => exact hA.elim
  rename_i b i off new hx0 hy0
  split at hA
  case h_2 => exact hA.elim
  rename_i k hk
  split at hA
  case h_2 => exact hA.elim
  rename_i cs hcs
  obtain ⟨hro, hnl, hle, hA⟩ := hA
  refine ⟨_, [b], _, hA, by simp, fun N S G f2 h2 a w st hx hr hn oper ho => ?_⟩
  have h1 := st.ev x; rw [hx x (by simp [Op.operands]), hx0] at h1; simp only [R] at h1
  have hk2 : h2 b = some k := (hr b (by simp)).trans hk
  obtain ⟨h3, h4⟩ := cells_R hy0 (hx y (by simp [Op.operands]) ▸ st.ev y)
  have hb3 := cells_bd hy0 (hx y (by simp [Op.operands]) ▸ st.evbd y)
  obtain ⟨w', hrun, hrel, htr⟩ := Rel.storeCells (P := P) new _ h2 w b k i off 0 cs st.rel hk2 hro hcs (by omega) h3 h4 hb3 (i * G.σ b + off) (by omega)
  refine ⟨undef, w', G, .inr ⟨?_, rfl⟩, Gh.le.refl S G, ?_, ?_, by simp [R, lv, RP], by simp [lv, V.bd]⟩
  · have hsz : (a.eval y).cells.size = ti.size := by have := RL_length h3; simp at this; omega
    have h5 : (sizeOf t).run P w = .ok ti.size w := by simp [sizeOf, typeInfo, hi]
    simp [execOp, ho, h1, Instr.storeAt, Instr.sureAddr, storeVar, h5, hsz, hrun]
  · exact hrel.monoS fun b hb => .inl hb
  · exact htr

theorem snd_faddr {t : TypeId} {x : Operand} {j : Nat} {o : AO} (hc : compOp P (.fieldAddr t x j) = some o) (hA : AS o nb f h K) : Snd P (.fieldAddr t x j) nb f h K := by
  simp only [compOp] at hc
  split at hc
  case h_2 => cases hc
  rename_i fs hu
  split at hc
  case h_2 => cases hc
  rename_i fd hfd
  split at hc
  case h_2 => cases hc
  rename_i ti hi
  split at hc
  case isFalse => cases hc
  rename_i hpos
  simp only [Option.some.injEq] at hc; subst hc
  have run : ∀ (ad : Addr) (w : World), (Instr.fieldAt t (.pointer (some ad)) j).run P w = .ok (.pointer (some (ad.add fd.offset))) w := fun ad w => by
    have h5 : (sizeOf fd.type).run P w = .ok ti.size w := by simp [sizeOf, typeInfo, hi]
    simp [Instr.fieldAt, run_underlying hu, hfd, Instr.sureAddr, fieldPlace, h5, Nat.ne_of_gt hpos]
  simp only [AS] at hA
  split at hA
  · rename_i b i off hx0
    refine snd_pure _ hA fun N S G f2 h2 a w st hx oper ho => ?_
    have h1 := st.ev x; rw [hx x (by simp [Op.operands]), hx0] at h1; simp only [R] at h1
    have hb := st.evbd x; rw [hx x (by simp [Op.operands]), hx0] at hb
    exact ⟨.pointer (some (({ block := G.φ b, off := i * G.σ b + off } : Addr).add fd.offset)), by simp only [execOp, ho, h1, Sem.run_bind, run, Result.andThen_ok, Sem.run_pure], by simp only [R]; rw [add_plain', Nat.add_assoc], by simpa [V.bd] using hb⟩
  · rename_i cs hx0
    refine snd_pure _ hA fun N S G f2 h2 a w st hx oper ho => ?_
    have h1 := st.ev x; rw [hx x (by simp [Op.operands]), hx0] at h1; simp only [R, RP] at h1
    obtain ⟨ad, h1, h3⟩ := h1
    refine ⟨.pointer (some (ad.add fd.offset)), by simp only [execOp, ho, h1, Sem.run_bind, run, Result.andThen_ok, Sem.run_pure], ?_, by simp [V.bd]⟩
    simp only [R, RP]
    exact ⟨_, rfl, RPC_shift.2 (by simpa using RPC_drop (n := fd.offset) h3)⟩
  · exact hA.elim

theorem snd_iaddr {t : TypeId} {x y : Operand} {o : AO} (hc : compOp P (.indexAddr t x y) = some o) (hA : AS o nb f h K) : Snd P (.indexAddr t x y) nb f h K := by
  simp only [compOp] at hc
  split at hc
  case h_2 => cases hc
  rename_i e hu
  split at hc
  case h_2 => cases hc
  rename_i ti hi
  split at hc
  case isFalse => cases hc
  rename_i hpos
  simp only [Option.some.injEq] at hc; subst hc
  have hel : P.elem t = e := by simp [Program.elem, hu]
  have run : ∀ (ad : Addr) (len cap n : Nat) (kd : IntKind) (w : World), n < len → (Instr.indexAt t (.slice (some ad) len cap) (.int kd (n : Int))).run P w = .ok (.pointer (some (ad.add (n * ti.size)))) w := fun ad len cap n kd w hlt => by
    have h5 : (sizeOf e).run P w = .ok ti.size w := by simp [sizeOf, typeInfo, hi]
    rw [run_indexAt_slice w t ad len cap kd n (by rw [hel]; exact hu), if_pos ⟨by omega, by omega⟩, hel, h5]
    simp
  simp only [AS] at hA
  split at hA
  · rename_i sz' xs kd iv hx0 hy0
    obtain ⟨rfl, n, el, rfl, hel', hA⟩ := hA
    refine snd_pure _ hA fun N S G f2 h2 a w st hx oper ho => ?_
    have h1 := st.ev x; rw [hx x (by simp [Op.operands]), hx0] at h1; simp only [R, RP] at h1
    have h2' := st.ev y; rw [hx y (by simp [Op.operands]), hy0] at h2'; simp only [R, RP] at h2'
    obtain ⟨A, len, cap, h1, hlen, hcap, hbig, h3⟩ := h1
    have hlt : n < len := by rw [hlen]; exact (List.getElem?_eq_some_iff.1 hel').1
    rcases h3 with h3 | ⟨ad, rfl, h3⟩
    · omega
    · refine ⟨.pointer (some (ad.add (n * ti.size))), by simp only [execOp, ho, h1, h2', Sem.run_bind, run _ _ _ _ _ _ hlt, Result.andThen_ok, Sem.run_pure], ?_, by simp [V.bd]⟩
      simp only [R, RP]
      have := (RPE_iff.1 h3 n el hel').2
      exact ⟨_, rfl, RPC_shift.2 (by simpa using this)⟩
  · rename_i b m fl kd iv hx0 hy0
    split at hA
    case h_2 => exact hA.elim
    rename_i k hk
    obtain ⟨hsz, n, rfl, hlt, hA⟩ := hA
    refine ⟨_, [b], [], hA, by simp, fun N S G f2 h2 a w st hx hr hn oper ho => ?_⟩
    have h1 := st.ev x; rw [hx x (by simp [Op.operands]), hx0] at h1; simp only [R] at h1
    have hb := st.evbd x; rw [hx x (by simp [Op.operands]), hx0] at hb
    have h2' := st.ev y; rw [hx y (by simp [Op.operands]), hy0] at h2'; simp only [R, RP] at h2'
    obtain ⟨cap, h1, _⟩ := h1
    have hk2 : h2 b = some k := (hr b (by simp)).trans hk
    obtain ⟨arr, e', rr⟩ := st.rel.blk b k hk2
    refine outc_pure st (u := .pointer (some (({ block := G.φ b, off := 0 } : Addr).add (n * ti.size)))) (by simp only [execOp, ho, h1, h2', Sem.run_bind, run _ _ _ _ _ _ (Nat.lt_of_lt_of_le hlt (Nat.le_refl _)), Result.andThen_ok, Sem.run_pure]) ?_ (by simpa [V.bd] using hb)
    simp only [R]
    rw [add_plain', ← rr.sz, hsz]; simp
  · exact hA.elim
end
end Go.Ab
/- Each operation does in the machine what it does to abstract values: what computes, what builds, append. -/
set_option linter.unusedVariables false
set_option linter.unusedSimpArgs false
namespace Go.Ab
open Go.RowKit

section
variable {P : Program} {nb : Nat} {f : FV} {h : HF} {K : Kont}

theorem snd_un {op : UnOp} {t : TypeId} {x : Operand} {o : AO} (hc : compOp P (.unOp op t x) = some o) (hA : AS o nb f h K) : Snd P (.unOp op t x) nb f h K := by
  simp only [compOp, Option.some.injEq] at hc; subst hc
  simp only [AS] at hA
  split at hA
  · rename_i k n hx0
    refine snd_pure _ hA fun N S G f2 h2 a w st hx oper ho => ?_
    have h1 := st.ev x; rw [hx x (by simp [Op.operands]), hx0] at h1; simp only [R, RP] at h1
    exact ⟨.int k (k.wrap (0 - n)), by simp [execOp, ho, h1, Op.unary, Op.intArith], by simp [R, RP], by simp [V.bd]⟩
  · rename_i b hx0
    refine snd_pure _ hA fun N S G f2 h2 a w st hx oper ho => ?_
    have h1 := st.ev x; rw [hx x (by simp [Op.operands]), hx0] at h1; simp only [R, RP] at h1
    exact ⟨.bool (!b), by simp [execOp, ho, h1, Op.unary], by simp [R, RP], by simp [V.bd]⟩
  · exact hA.elim
/-- the world has grown, and what has come is never written -/
theorem Rel.more {S G h w w'} (r : Rel S G h w) (hb : Below w.heap.size w w') (J : Imm) (hle : G.I.le J) (hJ : ImmOk J w') (hnew : ∀ a v, J a = some v → a.block < w.heap.size → G.I a = some v) :
    Rel S { G with I := J } h w' ∧ Tr G h w { G with I := J } h w' := by
  have hG : Gh.le S G { G with I := J } := ⟨fun _ _ => rfl, fun _ _ => rfl, fun _ _ => rfl, hle⟩
  refine ⟨⟨hJ, fun b k e => ?_, r.inj, fun b k e hro a v ea => ?_, r.live, r.bd⟩, ⟨hb.os, hb.tape, hb.output, hb.size, hle, fun k hk _ => hb.block k hk, fun b blk e hro _ => ⟨b, blk, e, hro, rfl⟩, fun b blk e _ => ⟨b, blk, e, rfl⟩, fun a v e hlt => .inl (hnew a v e hlt)⟩⟩
  · obtain ⟨arr, e1, e2⟩ := r.blk b k e
    exact ⟨arr, by rw [hb.block _ (r.lt e)]; exact e1, e2.mono hG (r.live b k e) (r.bd b k e)⟩
  · by_cases hlt : a.block < w.heap.size
    · exact r.sep b k e hro a v (hnew a v ea hlt)
    · have := r.lt e; show a.block ≠ G.φ b; omega
theorem snd_sbytes {src dst e : TypeId} {x : Operand} (hs : P.underlying src = some .string) (hd : P.underlying dst = some (.slice e)) (he : P.underlying e = some (.int .u8)) (hA : AS (.sbytes x) nb f h K) : Snd P (.convert src dst x) nb f h K := by
  simp only [AS] at hA
  split at hA
  case h_2 => exact hA.elim
  rename_i s hx0
  obtain ⟨hbig, hA⟩ := hA
  refine ⟨_, [], [], hA, by simp, fun N S G f2 h2 a w st hx _ hn oper ho => ?_⟩
  have h1 := st.ev x; rw [hx x (by simp [Op.operands]), hx0] at h1; simp only [R, RP] at h1
  have hb : Below w.heap.size w (Lib.bytesWorld w e s) := ⟨rfl, rfl, rfl, by rw [Lib.bytesWorld_size]; omega, fun k hk => Lib.bytesWorld_at_old w e s k hk⟩
  let J : Imm := fun a => if a.block = w.heap.size then (if a.spot = none ∧ a.off < s.size then some (.int .u8 (s.data.toList.getD a.off 0).toNat) else none) else G.I a
  have hlt := fun a v (e : G.I a = some v) => st.rel.imm_lt e
  have hle : G.I.le J := fun a v e1 => by
    have := hlt a v e1
    simp only [J]; rw [if_neg (by omega)]; exact e1
  have hJ : ImmOk J (Lib.bytesWorld w e s) := by
    refine ⟨fun a v e1 => ?_, st.rel.imm.laid.mono hle⟩
    simp only [J] at e1
    split at e1
    · rename_i hbk
      split at e1
      · rename_i hc
        obtain ⟨b, o, pt⟩ := a
        simp only at hbk hc; obtain ⟨rfl, hc⟩ := hc; subst hbk
        rw [← e1]; exact Lib.bytesWorld_cell w e s o hc
      · cases e1
    · rw [Lib.bytesWorld_old w e s a (hlt a v e1)]; exact st.rel.imm.ok a v e1
  have hm := st.rel.more hb J hle hJ fun a v e1 hl => by simp only [J] at e1; rwa [if_neg (by omega)] at e1
  refine ⟨.slice (some ⟨w.heap.size, 0, none⟩) s.size (grownCap w s.size 0 e), Lib.bytesWorld w e s, { G with I := J }, .inl ?_, ⟨fun _ _ => rfl, fun _ _ => rfl, fun _ _ => rfl, hle⟩, by simpa [SD, updD] using hm.1.monoS fun b hb => .inl hb, by simpa [updD] using hm.2, ?_, by simp [V.bd]⟩
  · simp only [execOp, ho, h1]
    simp only [Sem.run_bind, Lib.run_convert_string_bytes w src dst e s hs hd he, Result.andThen_ok, Sem.run_pure]
  · simp only [R, RP]
    refine ⟨some ⟨w.heap.size, 0, none⟩, s.size, _, rfl, (by rw [List.length_map, Array.length_toList]; rfl), grownCap_ge w s.size 0 e, hbig, .inr ⟨_, rfl, RPE_iff.2 fun i x hx => ?_⟩⟩
    rw [List.getElem?_map] at hx
    obtain ⟨c, hc, rfl⟩ := Option.map_eq_some_iff.1 hx
    have hi : i < s.size := by have := (List.getElem?_eq_some_iff.1 hc).1; rw [Array.length_toList] at this; exact this
    have ha : ∀ k, k = i → (⟨w.heap.size, 0, none⟩ : Addr).add k = ⟨w.heap.size, i, none⟩ := fun k hk => by subst hk; unfold Addr.add; split <;> simp_all
    refine ⟨rfl, RPC_iff.2 fun j c' hc' => ?_⟩
    cases j with
    | zero =>
      simp only [PV.cells, List.getElem?_cons_zero, Option.some.injEq] at hc'; subst hc'
      rw [ha _ (by omega)]
      refine ⟨.int .u8 (s.data.toList.getD i 0).toNat, by simp only [J]; rw [if_pos trivial, if_pos ⟨trivial, hi⟩], rfl, by simp only [RP, List.getD, hc]; rfl⟩
    | succ j => simp [PV.cells] at hc'
theorem snd_conv {src dst : TypeId} {x : Operand} {o : AO} (hc : compOp P (.convert src dst x) = some o) (hA : AS o nb f h K) : Snd P (.convert src dst x) nb f h K := by
  simp only [compOp] at hc
  split at hc
  case h_2 =>
    rename_i e hs hd
    split at hc
    · rename_i he
      simp only [Option.some.injEq] at hc; subst hc
      exact snd_sbytes hs hd he hA
    · cases hc
  case h_3 => cases hc
  rename_i k0 k hs hd
  simp only [Option.some.injEq] at hc; subst hc
  simp only [AS] at hA
  split at hA
  · rename_i k' n hx0
    refine snd_pure _ hA fun N S G f2 h2 a w st hx oper ho => ?_
    have h1 := st.ev x; rw [hx x (by simp [Op.operands]), hx0] at h1; simp only [R, RP] at h1
    exact ⟨.int k (k.wrap n), by simp [execOp, ho, h1, convert, run_underlying hs, run_underlying hd, Conv.intToInt], by simp [R, RP], by simp [V.bd]⟩
  · exact hA.elim
theorem RL_map_ev {N S G f2 h2 a w} (st : St N S G f2 h2 a w) : ∀ (xs : List Operand), (∀ x ∈ xs, ev f2 x = ev f x) → RL G (xs.map (ev f)) (xs.map a.eval) ∧ V.bdL S (xs.map (ev f))
  | [], _ => by simp [RL, V.bdL]
  | x :: xs, hx => by
    obtain ⟨h1, h2⟩ := RL_map_ev st xs fun y hy => hx y (by simp [hy])
    have e := hx x (by simp)
    simp only [List.map_cons, RL, V.bdL]
    exact ⟨⟨_, _, rfl, e ▸ st.ev x, h1⟩, e ▸ st.evbd x, h2⟩
theorem snd_mkfn {g : Fn} {first caps : Array Operand} {o : AO} (hc : compOp P (.makeFunc g first caps) = some o) (hA : AS o nb f h K) : Snd P (.makeFunc g first caps) nb f h K := by
  cases g with
  | func g =>
    simp only [compOp] at hc
    split at hc
    · rename_i hf
      simp only [Option.some.injEq] at hc; subst hc
      simp only [AS] at hA
      refine snd_pure _ hA fun N S G f2 h2 a w st hx oper ho => ?_
      obtain ⟨h1, h2⟩ := RL_map_ev st caps.toList fun x hx' => hx x (by simp [Op.operands]; right; simpa using hx')
      have hf' : first = #[] := Array.eq_empty_of_size_eq_zero hf
      exact ⟨.func (.func g) #[] (caps.map a.eval), by simp [execOp, ho, Instr.makeFunc, hf'], by simp only [R]; exact ⟨_, rfl, by simpa using h1⟩, by simpa [V.bd] using h2⟩
    · cases hc
  | _ => simp [compOp] at hc
theorem snd_ext {x : Operand} {k : Nat} {o : AO} (hc : compOp P (.extract x k) = some o) (hA : AS o nb f h K) : Snd P (.extract x k) nb f h K := by
  simp only [compOp, Option.some.injEq] at hc; subst hc
  simp only [AS] at hA
  split at hA
  · rename_i vs hx0
    split at hA
    case h_2 => exact hA.elim
    rename_i v hv
    refine snd_pure _ hA fun N S G f2 h2 a w st hx oper ho => ?_
    have h1 := st.ev x; rw [hx x (by simp [Op.operands]), hx0] at h1; simp only [R] at h1
    have hb := st.evbd x; rw [hx x (by simp [Op.operands]), hx0] at hb; simp only [V.bd] at hb
    obtain ⟨us, h1, h3⟩ := h1
    obtain ⟨u, e, hu⟩ := RL_get h3 k v hv
    rw [Array.getElem?_toList] at e
    exact ⟨u, by simp [execOp, ho, h1, Instr.extract, e], hu, bdL_iff.1 hb v (List.mem_of_getElem? hv)⟩
  · rename_i vs hx0
    split at hA
    case h_2 => exact hA.elim
    rename_i v hv
    refine snd_pure _ hA fun N S G f2 h2 a w st hx oper ho => ?_
    have h1 := st.ev x; rw [hx x (by simp [Op.operands]), hx0] at h1; simp only [R, RP] at h1
    obtain ⟨us, h1, h3⟩ := h1
    obtain ⟨u, e, hu⟩ := RPL_get h3 k v hv
    rw [Array.getElem?_toList] at e
    exact ⟨u, by simp [execOp, ho, h1, Instr.extract, e], by simpa [R] using hu, by simp [V.bd]⟩
  · exact hA.elim
theorem snd_field {t : TypeId} {x : Operand} {j : Nat} {o : AO} (hc : compOp P (.field t x j) = some o) (hA : AS o nb f h K) : Snd P (.field t x j) nb f h K := by
  simp only [compOp] at hc
  split at hc
  case h_2 => cases hc
  rename_i fs hu
  split at hc
  case h_2 => cases hc
  rename_i fd hfd
  split at hc
  case h_2 => cases hc
  rename_i g ti hg hi
  simp only [Option.some.injEq] at hc; subst hc
  have run : ∀ (us : Array Value) (w : World), fd.offset + ti.size ≤ us.size → (g = true ∨ ti.size = 1) → (Instr.field t (.agg us) j).run P w = .ok (mkc g ((us.toList.drop fd.offset).take ti.size)) w := fun us w hle hcond => by
    have h5 : (sizeOf fd.type).run P w = .ok ti.size w := by simp [sizeOf, typeInfo, hi]
    simp only [Instr.field, Sem.run_bind, run_underlying hu, Result.andThen_ok, hfd, asAgg, part, run_isAgg hg, Sem.run_pure]
    cases g with
    | true =>
      simp only [if_true, Sem.run_bind, h5, Result.andThen_ok, Sem.run_pure, mkc]
      congr 2
      apply Array.ext'
      simp [List.take_drop]
    | false =>
      have h1 : ti.size = 1 := by simpa using hcond
      rw [h1] at hle
      have h2 : us[fd.offset]? = some us[fd.offset] := Array.getElem?_eq_getElem (by omega)
      simp only [Bool.false_eq_true, if_false, h2, Sem.run_pure, mkc, h1]
      congr 1
      rw [List.take_one, List.head?_drop, Array.getElem?_toList, h2]; rfl
  simp only [AS] at hA
  split at hA
  · rename_i cs hx0
    obtain ⟨hle, hcond, hA⟩ := hA
    refine snd_pure _ hA fun N S G f2 h2 a w st hx oper ho => ?_
    have h1 := st.ev x; rw [hx x (by simp [Op.operands]), hx0] at h1; simp only [R] at h1
    have hb := st.evbd x; rw [hx x (by simp [Op.operands]), hx0] at hb; simp only [V.bd] at hb
    obtain ⟨us, h1, hone, h3⟩ := h1
    have hl := RL_length h3
    rw [Array.length_toList] at hl
    refine ⟨_, by simp only [execOp, ho, h1, Sem.run_bind, run us w (by omega) hcond, Result.andThen_ok, Sem.run_pure]; rfl, ?_, mkv_bd (bdL_sub hb fun c hc => List.mem_of_mem_drop (List.mem_of_mem_take hc))⟩
    refine mkv_R (RL_take _ (RL_drop _ h3)) (fun u hu => hone u (List.mem_of_mem_drop (List.mem_of_mem_take hu))) ?_
    rcases hcond with hcond | hcond
    · exact .inl hcond
    · right; simp; omega
  · rename_i cs hx0
    obtain ⟨hle, hcond, hA⟩ := hA
    refine snd_pure _ hA fun N S G f2 h2 a w st hx oper ho => ?_
    have h1 := st.ev x; rw [hx x (by simp [Op.operands]), hx0] at h1; simp only [R, RP] at h1
    obtain ⟨us, h1, hone, h3⟩ := h1
    have hl := RPL_length h3
    rw [Array.length_toList] at hl
    refine ⟨_, by simp only [execOp, ho, h1, Sem.run_bind, run us w (by omega) hcond, Result.andThen_ok, Sem.run_pure]; rfl, ?_, by simp [V.bd]⟩
    simp only [R]
    refine mkp_R (RPL_take _ (RPL_drop _ h3)) (fun u hu => hone u (List.mem_of_mem_drop (List.mem_of_mem_take hu))) ?_
    rcases hcond with hcond | hcond
    · exact .inl hcond
    · right; simp; omega
  · exact hA.elim
theorem snd_sindex {t : TypeId} {x y : Operand} {o : AO} (hc : compOp P (.index t x y) = some o) (hA : AS o nb f h K) : Snd P (.index t x y) nb f h K := by
  simp only [compOp] at hc
  split at hc
  case h_2 => cases hc
  rename_i hu
  simp only [Option.some.injEq] at hc; subst hc
  simp only [AS] at hA
  split at hA
  · rename_i s kd iv hx0 hy0
    obtain ⟨n, c, rfl, hcn, hA⟩ := hA
    refine snd_pure _ hA fun N S G f2 h2 a w st hx oper ho => ?_
    have h1 := st.ev x; rw [hx x (by simp [Op.operands]), hx0] at h1; simp only [R, RP] at h1
    have h2' := st.ev y; rw [hx y (by simp [Op.operands]), hy0] at h2'; simp only [R, RP] at h2'
    refine ⟨.int .u8 c.toNat, ?_, by simp [R, RP], by simp [V.bd]⟩
    have hr : (Instr.index t (.string s) (.int kd (n : Int))).run P w = .ok (.int .u8 c.toNat) w := by
      simp [Instr.index, asIntOf, run_underlying hu, hcn]
    simp only [execOp, ho, h1, h2', Sem.run_bind, hr, Result.andThen_ok, Sem.run_pure]
  · exact hA.elim
theorem snd_nilc {x : Operand} {o : AO} (hc : compOp P (.nilCheck x) = some o) (hA : AS o nb f h K) : Snd P (.nilCheck x) nb f h K := by
  simp only [compOp, Option.some.injEq] at hc; subst hc
  simp only [AS] at hA
  split at hA
  case h_2 => exact hA.elim
  rename_i hn
  refine snd_pure _ hA fun N S G f2 h2 a w st hx oper ho => ?_
  have e := hx x (by simp [Op.operands])
  have h1 := st.ev x; rw [e] at h1
  have hb := st.evbd x; rw [e] at hb
  refine ⟨a.eval x, ?_, h1, hb⟩
  generalize ev f x = v at *
  unfold V.nil? at hn
  split at hn <;> first | (simp at hn; done) | skip
  · simp only [R, RP] at h1; obtain ⟨ad, h1, _⟩ := h1; simp [execOp, ho, h1]
  · simp only [R, RP] at h1; obtain ⟨A, n, c, h1, _⟩ := h1; simp [execOp, ho, h1]
  · simp only [R, RP] at h1; obtain ⟨us, h1, _⟩ := h1; simp [execOp, ho, h1]
  · simp only [R] at h1; simp [execOp, ho, h1]
  · simp only [R] at h1; obtain ⟨c, h1, _⟩ := h1; simp [execOp, ho, h1]
  · simp only [R] at h1; obtain ⟨us, h1, _⟩ := h1; simp [execOp, ho, h1]
theorem snd_len {c : Call} {x : Operand} {t : TypeId} {str : Bool} (hb : c.callee = .builtin .len) (ha : c.args.toList = [x]) (ht : c.argTypes.toList = [t])
    (hu : (str = true ∧ P.underlying t = some .string) ∨ (str = false ∧ ∃ e, P.underlying t = some (.slice e))) (hA : AS (.slen str x) nb f h K) : Snd P (.call c) nb f h K := by
  obtain ⟨callee, args, tys⟩ := c
  simp only at hb ha ht; subst hb
  have ha' : args = #[x] := by rw [← Array.toArray_toList (xs := args), ha]
  have ht' : tys = #[t] := by rw [← Array.toArray_toList (xs := tys), ht]
  subst ha'; subst ht'
  simp only [AS] at hA
  have gs : ∀ (A : Option Addr) (n cap : Nat) (w : World) (a : Act) (oper : Oper), str = false → oper.op = .call { callee := .builtin .len, args := #[x], argTypes := #[t] } → a.eval x = .slice A n cap →
      (execOp a.eval oper).run P w = .ok (.value (.int .i64 n)) w := by
    intro A n cap w a oper hs ho hx
    rcases hu with ⟨h1, _⟩ | ⟨_, e, hu⟩
    · rw [hs] at h1; cases h1
    · simp [execOp, ho, hx, resolve, invoke, builtin, Builtin.len_, run_underlying hu, goInt]
  split at hA
  · rename_i sz xs hx0
    obtain ⟨hs, hA⟩ := hA
    refine snd_pure _ hA fun N S G f2 h2 a w st hx oper ho => ?_
    have h1 := st.ev x; rw [hx x (by simp [Op.operands, Call.operands]), hx0] at h1; simp only [R, RP] at h1
    obtain ⟨A, n, c, h1, hn, _⟩ := h1
    exact ⟨.int .i64 xs.length, hn ▸ gs A n c w a oper hs ho h1, by simp [R, RP], by simp [V.bd]⟩
  · rename_i hx0
    obtain ⟨hs, hA⟩ := hA
    refine snd_pure _ hA fun N S G f2 h2 a w st hx oper ho => ?_
    have h1 := st.ev x; rw [hx x (by simp [Op.operands, Call.operands]), hx0] at h1; simp only [R, RP] at h1
    exact ⟨.int .i64 0, gs none 0 0 w a oper hs ho h1, by simp [R, RP], by simp [V.bd]⟩
  · rename_i ad n cp hx0
    obtain ⟨hs, hA⟩ := hA
    refine snd_pure _ hA fun N S G f2 h2 a w st hx oper ho => ?_
    have h1 := st.ev x; rw [hx x (by simp [Op.operands, Call.operands]), hx0] at h1; simp only [R, RP] at h1
    exact ⟨.int .i64 n, gs _ n cp w a oper hs ho h1, by simp [R, RP], by simp [V.bd]⟩
  · rename_i s hx0
    obtain ⟨hs, hA⟩ := hA
    refine snd_pure _ hA fun N S G f2 h2 a w st hx oper ho => ?_
    have h1 := st.ev x; rw [hx x (by simp [Op.operands, Call.operands]), hx0] at h1; simp only [R, RP] at h1
    refine ⟨.int .i64 s.size, ?_, by simp [R, RP], by simp [V.bd]⟩
    rcases hu with ⟨_, hu⟩ | ⟨h3, _⟩
    · simp [execOp, ho, h1, resolve, invoke, builtin, Builtin.len_, run_underlying hu, goInt]
    · rw [hs] at h3; cases h3
  · rename_i b n fl hx0
    obtain ⟨hs, hA⟩ := hA
    refine snd_pure _ hA fun N S G f2 h2 a w st hx oper ho => ?_
    have h1 := st.ev x; rw [hx x (by simp [Op.operands, Call.operands]), hx0] at h1; simp only [R] at h1
    obtain ⟨c, h1, _⟩ := h1
    exact ⟨.int .i64 n, gs _ n c w a oper hs ho h1, by simp [R, RP], by simp [V.bd]⟩
  · exact hA.elim

theorem snd_minmax {c : Call} {x y : Operand} {mn : Bool} (hb : c.callee = .builtin (if mn then .min else .max)) (ha : c.args.toList = [x, y]) (hA : AS (.minmax mn x y) nb f h K) : Snd P (.call c) nb f h K := by
  obtain ⟨callee, args, tys⟩ := c
  simp only at hb ha; subst hb
  have ha' : args = #[x, y] := by rw [← Array.toArray_toList (xs := args), ha]
  subst ha'
  simp only [AS] at hA
  split at hA
  · rename_i k p k' q hx0 hy0
    refine snd_pure _ hA fun N S G f2 h2 a w st hx oper ho => ?_
    have h1 := st.ev x; rw [hx x (by simp [Op.operands, Call.operands]), hx0] at h1; simp only [R, RP] at h1
    have h2' := st.ev y; rw [hx y (by simp [Op.operands, Call.operands]), hy0] at h2'; simp only [R, RP] at h2'
    refine ⟨.int k (if mn then (if q < p then q else p) else (if q > p then q else p)), ?_, by simp only [R, RP], by simp [V.bd]⟩
    cases mn <;> simp [execOp, ho, h1, h2', resolve, invoke, builtin, Builtin.min_, Builtin.max_, Builtin.min2, Builtin.max2]
  · exact hA.elim
end
end Go.Ab
/- Each operation does in the machine what it does to abstract values: cuts, tests, what is built, append. -/
set_option linter.unusedVariables false
set_option linter.unusedSimpArgs false
namespace Go.Ab
open Go.RowKit

section
variable {P : Program} {nb : Nat} {f : FV} {h : HF} {K : Kont}

/-! ### tests -/
theorem run_bint {op : BinOp} {k : IntKind} {x y : Int} {v : Value} (hv : bint op k x y = some v) (t : TypeId) (w : World) : (binOp op t (.int k x) (.int k y)).run P w = .ok v w := by
  unfold bint at hv
  cases op <;> simp only [Option.some.injEq] at hv <;> try (cases hv; done)
  all_goals first
    | (subst hv; simp [binOp, Op.intArith, Op.intCmp]; done)
    | (split at hv
       · cases hv
       · rename_i hy
         simp only [Option.some.injEq] at hv; subst hv
         simp [binOp, Op.intDiv, hy])
theorem run_bstr {op : BinOp} {x y : ByteArray} {v : Value} (hv : bstr op x y = some v) (t : TypeId) (w : World) : (binOp op t (.string x) (.string y)).run P w = .ok v w := by
  unfold bstr at hv
  cases op <;> simp only [Option.some.injEq] at hv <;> try (cases hv; done)
  all_goals first
    | (subst hv; simp [binOp, Op.stringOp]; done)
    | (split at hv
       · rename_i hy
         simp only [Option.some.injEq] at hv; subst hv
         have : ¬ ((9223372036854775807 : Int) < (x.size : Int) + (y.size : Int)) := by omega
         simp [binOp, Op.stringOp, IntKind.max, IntKind.bits, IntKind.signed, this]
       · cases hv)
theorem run_beq {op : BinOp} {b : Bool} {v : Value} (hv : beq? op b = some v) {t : TypeId} {x y : Value} {w : World} (heq : (Op.equal t x y).run P w = .ok b w)
    (h1 : ∀ op, op = .eql → binOp op t x y = (do pure (.bool (← Op.equal t x y)))) (h2 : ∀ op, op = .neq → binOp op t x y = (do pure (.bool (!(← Op.equal t x y))))) : (binOp op t x y).run P w = .ok v w := by
  unfold beq? at hv
  split at hv <;> (try simp only [Option.some.injEq] at hv) <;> try (cases hv; done)
  · subst hv; rw [h1 _ rfl]; simp [heq]
  · subst hv; rw [h2 _ rfl]; simp [heq]
theorem run_eqGuard (op : BinOp) (t : TypeId) (x y : Operand) (a b : Value) (ha : a ≠ .nilIface) (hb : ∀ us, a ≠ .agg us) (w : World) : (eqGuard op t x y a b).run P w = .ok () w := by
  cases op <;> first
    | rfl
    | (cases a <;> first
        | (exact absurd rfl ha)
        | (exact absurd rfl (hb _))
        | rfl)
theorem eq_run {t : TypeId} {x y : Value} {b : Bool} {w : World} (h : ∀ d, (Op.equalIn (d + 1) t x y).run P w = .ok b w) : (Op.equal t x y).run P w = .ok b w := h 9999
theorem bdlit (S : Nat → Prop) (v : Value) : (V.pv (.lit v)).bd S := by simp [V.bd]

theorem litsP_R {I : Imm} : ∀ {ps : List PV} {l us : List Value}, litsP ps = some l → RPL I ps us → us = l
  | [], l, us, h, r => by
    simp only [litsP, Option.some.injEq] at h; simp only [RPL] at r; rw [r, h]
  | .lit v :: ps, l, us, h, r => by
    simp only [litsP, Option.map_eq_some_iff] at h
    obtain ⟨l', h1, rfl⟩ := h
    simp only [RPL, RP] at r
    obtain ⟨u, us', rfl, rfl, r2⟩ := r
    rw [litsP_R h1 r2]
theorem litsV_R {G : Gh} : ∀ {cs : List V} {l us : List Value}, litsV cs = some l → RL G cs us → us = l
  | [], l, us, h, r => by
    simp only [litsV, Option.some.injEq] at h; simp only [RL] at r; rw [r, h]
  | .pv (.lit v) :: ps, l, us, h, r => by
    simp only [litsV, Option.map_eq_some_iff] at h
    obtain ⟨l', h1, rfl⟩ := h
    simp only [RL, R, RP] at r
    obtain ⟨u, us', rfl, rfl, r2⟩ := r
    rw [litsV_R h1 r2]
theorem litsOf_R {G : Gh} {v : V} {l : List Value} {u : Value} (h : litsOf v = some l) (r : R G v u) : ∃ us : Array Value, u = .agg us ∧ us.toList = l := by
  unfold litsOf at h
  split at h
  · simp only [R, RP] at r
    obtain ⟨us, rfl, _, r⟩ := r
    exact ⟨us, rfl, litsP_R h r⟩
  · simp only [R] at r
    obtain ⟨us, rfl, _, r⟩ := r
    exact ⟨us, rfl, litsV_R h r⟩
  · cases h
theorem run_part1 {t : TypeId} {k : FK} (h : fkOf P t = some k) {xs : Array Value} {o : Nat} {v : Value} (hx : xs[o]? = some v) (w : World) : (part t xs o).run P w = .ok v w := by
  unfold fkOf at h
  cases hu : P.underlying t with
  | none => simp [hu] at h
  | some d => cases d <;> simp [hu] at h <;> simp [part, isAgg, run_underlying hu, hx]
theorem run_eq1 {t : TypeId} {k : FK} (h : fkOf P t = some k) {x y : Value} {r : Bool} (he : flatEq [k] [x] [y] = some r) (d : Nat) (w : World) : (Op.equalIn (d + 1) t x y).run P w = .ok r w := by
  unfold fkOf at h
  cases hu : P.underlying t with
  | none => simp [hu] at h
  | some u =>
    cases u <;> simp [hu] at h <;> subst h <;> cases x <;> (try (simp [flatEq] at he; done)) <;> cases y <;> (try (simp [flatEq] at he; done))
    · simp only [flatEq, Bool.and_true, Option.map_some, Option.some.injEq] at he
      simp [Op.equalIn, run_underlying hu, he]
    · simp only [flatEq] at he
      split at he
      · rename_i hk
        simp only [Option.map_some, Bool.and_true, Option.some.injEq] at he
        simp [Op.equalIn, run_underlying hu, he, hk]
      · cases he
    · simp only [flatEq, Bool.and_true, Option.map_some, Option.some.injEq] at he
      simp [Op.equalIn, run_underlying hu, he]
theorem flatEq_cons {k : FK} {fs : List FK} {xs ys : List Value} {r : Bool} (h : flatEq (k :: fs) xs ys = some r) : ∃ x xs' y ys' r1 r2, xs = x :: xs' ∧ ys = y :: ys' ∧ flatEq [k] [x] [y] = some r1 ∧ flatEq fs xs' ys' = some r2 ∧ r = (r1 && r2) := by
  cases xs with
  | nil => cases k <;> simp [flatEq] at h
  | cons x xs =>
    cases ys with
    | nil => cases k <;> cases x <;> simp [flatEq] at h
    | cons y ys =>
      cases k <;> cases x <;> (try (simp [flatEq] at h; done)) <;> cases y <;> (try (simp [flatEq] at h; done))
      · simp only [flatEq] at h
        split at h
        · rename_i hk
          obtain ⟨r2, h2, rfl⟩ := Option.map_eq_some_iff.1 h
          exact ⟨_, _, _, _, _, r2, rfl, rfl, by simp [flatEq, hk], h2, rfl⟩
        · cases h
      · simp only [flatEq] at h
        obtain ⟨r2, h2, rfl⟩ := Option.map_eq_some_iff.1 h
        exact ⟨_, _, _, _, _, r2, rfl, rfl, by simp [flatEq], h2, rfl⟩
      · simp only [flatEq] at h
        obtain ⟨r2, h2, rfl⟩ := Option.map_eq_some_iff.1 h
        exact ⟨_, _, _, _, _, r2, rfl, rfl, by simp [flatEq], h2, rfl⟩
theorem run_flat {xs ys : Array Value} (d : Nat) (w : World) : ∀ (fields : List Field) (o : Nat) (fks : List FK) (r : Bool), flatOf P o fields = some fks → flatEq fks (xs.toList.drop o) (ys.toList.drop o) = some r →
    (do
      for f in fields do
        if f.name ≠ "_" then
          if !(← Op.equalIn (d + 1) f.type (← part f.type xs f.offset) (← part f.type ys f.offset)) then return false
      pure true : Sem Bool).run P w = .ok r w
  | [], o, fks, r, h, he => by
    simp only [flatOf, Option.some.injEq] at h
    subst h
    have hr : r = true := by
      revert he
      cases xs.toList.drop o <;> cases ys.toList.drop o <;> simp [flatEq]
    subst hr
    simp
  | f :: fields, o, fks, r, h, he => by
    simp only [flatOf] at h
    split at h
    case isFalse => cases h
    rename_i hf
    split at h
    case h_2 => cases h
    rename_i k l hk hl
    simp only [Option.some.injEq] at h
    subst h
    obtain ⟨x, xs', y, ys', r1, r2, ex, ey, e1, e2, rfl⟩ := flatEq_cons he
    have gx : xs[f.offset]? = some x := by
      have := congrArg (·[0]?) ex
      simpa [hf.2] using this
    have gy : ys[f.offset]? = some y := by
      have := congrArg (·[0]?) ey
      simpa [hf.2] using this
    have dx : xs.toList.drop (o + 1) = xs' := by rw [← List.drop_drop, ex]; rfl
    have dy : ys.toList.drop (o + 1) = ys' := by rw [← List.drop_drop, ey]; rfl
    have ih := run_flat (xs := xs) (ys := ys) d w fields (o + 1) l r2 hl (by rw [dx, dy]; exact e2)
    have q1 := run_part1 hk gx w
    have q2 := run_part1 hk gy w
    have q3 := run_eq1 hk e1 d w
    simp only [List.forIn_cons, Sem.run_bind, hf.1, ne_eq, not_false_eq_true, if_true, Result.andThen_ok, q1, q2, q3]
    cases r1 with
    | true => simpa using ih
    | false => simp
theorem snd_bin {op : BinOp} {t yt : TypeId} {x y : Operand} {o : AO} (hc : compOp P (.binOp op t x y yt) = some o) (hA : AS o nb f h K) : Snd P (.binOp op t x y yt) nb f h K := by
  simp only [compOp] at hc
  split at hc
  case h_2 => cases hc
  rename_i tag htag
  simp only [Option.some.injEq] at hc; subst hc
  simp only [AS] at hA
  have fin : ∀ (v : Value), K (.pv (.lit v)) [] [] → (∀ N S G f2 h2 a w, St N S G f2 h2 a w → ev f2 x = ev f x → ev f2 y = ev f y → (eqGuard op t x y (a.eval x) (a.eval y)).run P w = .ok () w ∧ (binOp op t (a.eval x) (a.eval y)).run P w = .ok v w) →
      Snd P (.binOp op t x y yt) nb f h K := fun v hK hrun => snd_pure _ hK fun N S G f2 h2 a w st hx oper ho => by
    obtain ⟨e1, e2⟩ := hrun N S G f2 h2 a w st (hx x (by simp [Op.operands])) (hx y (by simp [Op.operands]))
    exact ⟨v, by simp only [execOp, ho, Sem.run_bind, e1, e2, Result.andThen_ok, Sem.run_pure], by simp [R, RP], bdlit _ _⟩
  unfold binK at hA
  split at hA
  · rename_i k p k' q hx0 hy0
    obtain ⟨_, rfl, hA⟩ := hA
    unfold optK at hA
    split at hA
    case h_2 => exact hA.elim
    rename_i v hv
    refine fin v hA fun N S G f2 h2 a w st e1 e2 => ?_
    have h1 := st.ev x; rw [e1, hx0] at h1; simp only [R, RP] at h1
    have h2' := st.ev y; rw [e2, hy0] at h2'; simp only [R, RP] at h2'
    rw [h1, h2']
    exact ⟨run_eqGuard _ _ _ _ _ _ (by simp) (by simp) _, run_bint hv _ _⟩
  · rename_i p q hx0 hy0
    obtain ⟨_, hA⟩ := hA
    unfold optK at hA
    split at hA
    case h_2 => exact hA.elim
    rename_i v hv
    refine fin v hA fun N S G f2 h2 a w st e1 e2 => ?_
    have h1 := st.ev x; rw [e1, hx0] at h1; simp only [R, RP] at h1
    have h2' := st.ev y; rw [e2, hy0] at h2'; simp only [R, RP] at h2'
    rw [h1, h2']
    exact ⟨run_eqGuard _ _ _ _ _ _ (by simp) (by simp) _, run_bstr hv _ _⟩
  · rename_i p q hx0 hy0
    obtain ⟨ht, hA⟩ := hA
    unfold optK at hA
    split at hA
    case h_2 => exact hA.elim
    rename_i v hv
    refine fin v hA fun N S G f2 h2 a w st e1 e2 => ?_
    have h1 := st.ev x; rw [e1, hx0] at h1; simp only [R, RP] at h1
    have h2' := st.ev y; rw [e2, hy0] at h2'; simp only [R, RP] at h2'
    rw [h1, h2']
    have hu : P.underlying t = some .bool := by
      unfold tagOf at htag
      split at htag <;> (try simp only [Option.some.injEq] at htag) <;> (try (rw [← htag] at ht; simp at ht; done)) <;> first | assumption | (cases htag; done) | (split at htag <;> first | (cases htag; done) | (obtain ⟨_, _, e⟩ := Option.map_eq_some_iff.1 htag; rw [← e] at ht; cases ht))
    exact ⟨run_eqGuard _ _ _ _ _ _ (by simp) (by simp) _, run_beq hv (eq_run fun d => by simp [Op.equalIn, run_underlying hu]) (by rintro op rfl; rfl) (by rintro op rfl; rfl)⟩
  · split at hA
    case h_2 => exact hA.elim
    rename_i b hb
    unfold optK at hA
    split at hA
    case h_2 => exact hA.elim
    rename_i v hv
    refine fin v hA fun N S G f2 h2 a w st e1 e2 => ?_
    have h1 := st.ev x; rw [e1] at h1
    have h2' := st.ev y; rw [e2] at h2'
    generalize ev f x = vx at *
    generalize ev f y = vy at *
    have ustag : ∀ tg, tagOf P t = some tg → (tg = .slice → ∃ e, P.underlying t = some (.slice e)) ∧ (tg = .ptr → ∃ e, P.underlying t = some (.pointer e)) ∧ (tg = .func → ∃ e e' e'', P.underlying t = some (.func e e' e'')) := fun tg ht => by
      unfold tagOf at ht
      split at ht <;> (try simp only [Option.some.injEq] at ht) <;> first | (cases ht; done) | (subst ht; refine ⟨fun h => ?_, fun h => ?_, fun h => ?_⟩ <;> first | (cases h; done) | exact ⟨_, by assumption⟩ | exact ⟨_, _, _, by assumption⟩) | (split at ht <;> first | (cases ht; done) | (obtain ⟨_, _, e⟩ := Option.map_eq_some_iff.1 ht; subst e; exact ⟨(fun h => by cases h), (fun h => by cases h), (fun h => by cases h)⟩))
    obtain ⟨us1, us2, us3⟩ := ustag _ htag
    unfold nilEq at hb
    split at hb <;> first | (cases hb; done) | (simp only [Option.some.injEq] at hb; subst hb) | skip
    · rename_i fs
      obtain ⟨fields, hu, hs1, hs2, hfl⟩ : ∃ fields : Array Field, P.underlying t = some (.struct fields) ∧ P.stoodInHeld t = false ∧ P.eqGuardType P.depth t = false ∧ flatOf P 0 fields.toList = some fs := by
        unfold tagOf at htag
        split at htag <;> (try simp only [Option.some.injEq, reduceCtorEq] at htag)
        rename_i fields hu
        split at htag
        · rename_i hc
          obtain ⟨l, e1, e2⟩ := Option.map_eq_some_iff.1 htag
          cases e2
          exact ⟨fields, hu, hc.1, hc.2, e1⟩
        · cases htag
      unfold flatV at hb
      split at hb
      case h_2 => cases hb
      rename_i la lb hla hlb
      obtain ⟨ua, ha, rfl⟩ := litsOf_R hla h1
      obtain ⟨ub, hb2, rfl⟩ := litsOf_R hlb h2'
      rw [ha, hb2]
      have hrun := run_flat (P := P) (xs := ua) (ys := ub) 9998 w fields.toList 0 fs b hfl (by simpa using hb)
      have heq : (Op.equal t (.agg ua) (.agg ub)).run P w = .ok b w := by
        show (Op.equalIn (9998 + 1 + 1) t (.agg ua) (.agg ub)).run P w = .ok b w
        rw [Op.equalIn]
        simp only [Sem.run_bind, run_underlying hu, Result.andThen_ok, run_program, hs1, Bool.false_eq_true, if_false]
        rw [← Array.forIn_toList]
        simp only [Sem.run_bind] at hrun
        exact hrun
      refine ⟨?_, run_beq hv heq (by rintro op rfl; rfl) (by rintro op rfl; rfl)⟩
      have hg : (eqGuard op t x y (.agg ua) (.agg ub)).run P w = .ok () w := by
        unfold eqGuard
        cases op <;> simp [hs2, run_program]
      exact hg
    · obtain ⟨e, hu⟩ := us1 rfl
      simp only [R, RP] at h1 h2'; rw [h1, h2']
      exact ⟨run_eqGuard _ _ _ _ _ _ (by simp) (by simp) _, run_beq hv (eq_run fun d => by simp [Op.equalIn, run_underlying hu]) (by rintro op rfl; rfl) (by rintro op rfl; rfl)⟩
    · obtain ⟨e, hu⟩ := us1 rfl
      simp only [R, RP] at h1 h2'; obtain ⟨A, n, c, h1, hn, _, _, h3⟩ := h1
      rcases h3 with h3 | ⟨ad, rfl, _⟩
      · simp [h3] at hn
      · rw [h1, h2']
        exact ⟨run_eqGuard _ _ _ _ _ _ (by simp) (by simp) _, run_beq hv (eq_run fun d => by simp [Op.equalIn, run_underlying hu]) (by rintro op rfl; rfl) (by rintro op rfl; rfl)⟩
    · obtain ⟨e, hu⟩ := us1 rfl
      simp only [R, RP] at h1 h2'; rw [h1, h2']
      exact ⟨run_eqGuard _ _ _ _ _ _ (by simp) (by simp) _, run_beq hv (eq_run fun d => by simp [Op.equalIn, run_underlying hu]) (by rintro op rfl; rfl) (by rintro op rfl; rfl)⟩
    · obtain ⟨e, hu⟩ := us1 rfl
      simp only [R, RP] at h1 h2'; obtain ⟨c, h1, _⟩ := h1; rw [h1, h2']
      exact ⟨run_eqGuard _ _ _ _ _ _ (by simp) (by simp) _, run_beq hv (eq_run fun d => by simp [Op.equalIn, run_underlying hu]) (by rintro op rfl; rfl) (by rintro op rfl; rfl)⟩
    · obtain ⟨e, hu⟩ := us2 rfl
      simp only [R, RP] at h1 h2'; rw [h1, h2']
      exact ⟨run_eqGuard _ _ _ _ _ _ (by simp) (by simp) _, run_beq hv (eq_run fun d => by simp [Op.equalIn, run_underlying hu]) (by rintro op rfl; rfl) (by rintro op rfl; rfl)⟩
    · obtain ⟨e, hu⟩ := us2 rfl
      simp only [R, RP] at h1 h2'; obtain ⟨ad, h1, _⟩ := h1; rw [h1, h2']
      exact ⟨run_eqGuard _ _ _ _ _ _ (by simp) (by simp) _, run_beq hv (eq_run fun d => by simp [Op.equalIn, run_underlying hu]) (by rintro op rfl; rfl) (by rintro op rfl; rfl)⟩
    · obtain ⟨e, hu⟩ := us2 rfl
      simp only [R, RP] at h1 h2'; rw [h1, h2']
      exact ⟨run_eqGuard _ _ _ _ _ _ (by simp) (by simp) _, run_beq hv (eq_run fun d => by simp [Op.equalIn, run_underlying hu]) (by rintro op rfl; rfl) (by rintro op rfl; rfl)⟩
    · obtain ⟨e, e', e'', hu⟩ := us3 rfl
      simp only [R, RP] at h1 h2'; rw [h1, h2']
      exact ⟨run_eqGuard _ _ _ _ _ _ (by simp) (by simp) _, run_beq hv (eq_run fun d => by simp [Op.equalIn, run_underlying hu]) (by rintro op rfl; rfl) (by rintro op rfl; rfl)⟩
    · obtain ⟨e, e', e'', hu⟩ := us3 rfl
      simp only [R, RP] at h1 h2'; obtain ⟨us, h1, _⟩ := h1; rw [h1, h2']
      exact ⟨run_eqGuard _ _ _ _ _ _ (by simp) (by simp) _, run_beq hv (eq_run fun d => by simp [Op.equalIn, run_underlying hu]) (by rintro op rfl; rfl) (by rintro op rfl; rfl)⟩
    · obtain ⟨e, e', e'', hu⟩ := us3 rfl
      simp only [R, RP] at h1 h2'; obtain ⟨us, h1, _⟩ := h1; rw [h1, h2']
      exact ⟨run_eqGuard _ _ _ _ _ _ (by simp) (by simp) _, run_beq hv (eq_run fun d => by simp [Op.equalIn, run_underlying hu]) (by rintro op rfl; rfl) (by rintro op rfl; rfl)⟩
end
end Go.Ab
