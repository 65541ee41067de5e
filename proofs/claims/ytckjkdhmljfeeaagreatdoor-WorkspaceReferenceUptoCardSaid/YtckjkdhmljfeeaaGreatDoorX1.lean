/- X1: joined from XE1. -/
import Derived.Test.YtckjkdhmljfeeaaGreatDoorK2
/- Runs whose data are all known: abstract values, blocks, what in the machine they stand for. -/
set_option linter.unusedVariables false
set_option linter.unusedSimpArgs false
namespace Go.Ev
open Go Go.RowKit

inductive X where
  | junk
  | v (x : Value)
  | ptr (b off : Nat)
  | sl (b off n sz : Nat) (c : Option Nat)
  | fn (f : FuncId) (fs caps : List X)
  | ifc (t : TypeId) (x : X)
  | agg (cs : List X)
  | tup (cs : List X)
  deriving Inhabited
/-- which machine block a name is, how many cells that has -/
structure Nm where
  φ : Nat → Nat
  κ : Nat → Nat
mutual
def RX (M : Nm) : X → Value → Prop
  | .junk, _ => True
  | .v x, u => u = x
  | .ptr b off, u => u = .pointer (some ⟨M.φ b, off, none⟩)
  | .sl b off n sz c, u => ∃ cap, u = .slice (some ⟨M.φ b, off, none⟩) n cap ∧ n ≤ cap ∧ off + cap * sz ≤ M.κ b ∧ ∀ k, c = some k → cap = k
  | .fn f fs caps, u => ∃ vs us, u = .func (.func f) vs us ∧ RXL M fs vs.toList ∧ RXL M caps us.toList
  | .ifc t x, u => ∃ y, u = .iface t y ∧ RX M x y
  | .agg cs, u => ∃ us, u = .agg us ∧ (∀ u ∈ us.toList, u.oneCell' = true) ∧ RXL M cs us.toList
  | .tup cs, u => ∃ us, u = .tuple us ∧ RXL M cs us.toList
def RXL (M : Nm) : List X → List Value → Prop
  | [], us => us = []
  | c :: cs, us => ∃ u us', us = u :: us' ∧ RX M c u ∧ RXL M cs us'
end
mutual
def X.bd (S : Nat → Prop) : X → Prop
  | .junk => True
  | .v _ => True
  | .ptr b _ => S b
  | .sl b _ _ _ _ => S b
  | .fn _ fs caps => bdL S fs ∧ bdL S caps
  | .ifc _ x => X.bd S x
  | .agg cs => bdL S cs
  | .tup cs => bdL S cs
def bdL (S : Nat → Prop) : List X → Prop
  | [] => True
  | c :: cs => X.bd S c ∧ bdL S cs
end
/-- the names of S are the same in both -/
def Nm.le (S : Nat → Prop) (M M' : Nm) : Prop := ∀ b, S b → M'.φ b = M.φ b ∧ M'.κ b = M.κ b
theorem Nm.le.refl (S : Nat → Prop) (M : Nm) : Nm.le S M M := fun _ _ => ⟨rfl, rfl⟩
theorem Nm.le.trans {S S' : Nat → Prop} {M M1 M2 : Nm} (h : Nm.le S M M1) (k : Nm.le S' M1 M2) (hs : ∀ b, S b → S' b) : Nm.le S M M2 := fun b hb =>
  ⟨(k b (hs b hb)).1.trans (h b hb).1, (k b (hs b hb)).2.trans (h b hb).2⟩
mutual
theorem RX_mono {S : Nat → Prop} {M M' : Nm} (h : Nm.le S M M') : ∀ (x : X) (u : Value), x.bd S → RX M x u → RX M' x u
  | .junk, u, _, _ => by simp [RX]
  | .v x, u, _, r => by simp only [RX] at r ⊢; exact r
  | .ptr b off, u, hb, r => by simp only [RX, X.bd] at r hb ⊢; rw [(h b hb).1]; exact r
  | .sl b off n sz c, u, hb, r => by simp only [RX, X.bd] at r hb ⊢; rw [(h b hb).1, (h b hb).2]; exact r
  | .fn f fs caps, u, hb, r => by
    simp only [RX, X.bd] at r hb ⊢
    obtain ⟨vs, us, e, r1, r2⟩ := r
    exact ⟨vs, us, e, RXL_mono h _ _ hb.1 r1, RXL_mono h _ _ hb.2 r2⟩
  | .ifc t x, u, hb, r => by
    simp only [RX, X.bd] at r hb ⊢
    obtain ⟨y, e, r⟩ := r
    exact ⟨y, e, RX_mono h _ _ hb r⟩
  | .agg cs, u, hb, r => by
    simp only [RX, X.bd] at r hb ⊢
    obtain ⟨us, e, h1, r⟩ := r
    exact ⟨us, e, h1, RXL_mono h _ _ hb r⟩
  | .tup cs, u, hb, r => by
    simp only [RX, X.bd] at r hb ⊢
    obtain ⟨us, e, r⟩ := r
    exact ⟨us, e, RXL_mono h _ _ hb r⟩
theorem RXL_mono {S : Nat → Prop} {M M' : Nm} (h : Nm.le S M M') : ∀ (xs : List X) (us : List Value), bdL S xs → RXL M xs us → RXL M' xs us
  | [], us, _, r => by simp only [RXL] at r ⊢; exact r
  | c :: cs, us, hb, r => by
    simp only [RXL, bdL] at r hb ⊢
    obtain ⟨u, us', e, r1, r2⟩ := r
    exact ⟨u, us', e, RX_mono h c u hb.1 r1, RXL_mono h cs us' hb.2 r2⟩
end
mutual
theorem bd_mono {S T : Nat → Prop} (h : ∀ b, S b → T b) : ∀ (x : X), x.bd S → x.bd T
  | .junk, _ => by simp [X.bd]
  | .v _, _ => by simp [X.bd]
  | .ptr b _, hb => by simp only [X.bd] at hb ⊢; exact h b hb
  | .sl b _ _ _ _, hb => by simp only [X.bd] at hb ⊢; exact h b hb
  | .fn _ fs caps, hb => by simp only [X.bd] at hb ⊢; exact ⟨bdL_mono h fs hb.1, bdL_mono h caps hb.2⟩
  | .ifc _ x, hb => by simp only [X.bd] at hb ⊢; exact bd_mono h x hb
  | .agg cs, hb => by simp only [X.bd] at hb ⊢; exact bdL_mono h cs hb
  | .tup cs, hb => by simp only [X.bd] at hb ⊢; exact bdL_mono h cs hb
theorem bdL_mono {S T : Nat → Prop} (h : ∀ b, S b → T b) : ∀ (xs : List X), bdL S xs → bdL T xs
  | [], _ => by simp [bdL]
  | c :: cs, hb => by simp only [bdL] at hb ⊢; exact ⟨bd_mono h c hb.1, bdL_mono h cs hb.2⟩
end
theorem bdL_iff {S : Nat → Prop} : ∀ {xs : List X}, bdL S xs ↔ ∀ x ∈ xs, x.bd S
  | [] => by simp [bdL]
  | c :: cs => by simp [bdL, bdL_iff (xs := cs)]
theorem RXL_len {M : Nm} : ∀ {xs : List X} {us : List Value}, RXL M xs us → us.length = xs.length
  | [], us, r => by simp only [RXL] at r; simp [r]
  | c :: cs, us, r => by
    simp only [RXL] at r
    obtain ⟨u, us', rfl, _, r2⟩ := r
    simp [RXL_len r2]
theorem RXL_get {M : Nm} : ∀ {xs : List X} {us : List Value}, RXL M xs us → ∀ (i : Nat) x, xs[i]? = some x → ∃ u, us[i]? = some u ∧ RX M x u
  | [], us, r, i, x, h => by simp at h
  | c :: cs, us, r, i, x, h => by
    simp only [RXL] at r
    obtain ⟨u, us', rfl, r1, r2⟩ := r
    cases i with
    | zero => simp only [List.getElem?_cons_zero, Option.some.injEq] at h; subst h; exact ⟨u, by simp, r1⟩
    | succ i => obtain ⟨y, e, ry⟩ := RXL_get r2 i x (by simpa using h); exact ⟨y, by simpa using e, ry⟩
theorem RXL_of {M : Nm} : ∀ {xs : List X} {us : List Value}, us.length = xs.length → (∀ (i : Nat) x u, xs[i]? = some x → us[i]? = some u → RX M x u) → RXL M xs us
  | [], us, hl, h => by simpa [RXL] using hl
  | c :: cs, us, hl, h => by
    cases us with
    | nil => simp at hl
    | cons u us =>
      simp only [RXL]
      exact ⟨u, us, rfl, h 0 c u (by simp) (by simp), RXL_of (by simpa using hl) fun i x y h1 h2 => h (i + 1) x y (by simpa using h1) (by simpa using h2)⟩

/-- a block: may it be written? its elements' type, its first cells -/
structure Blk where
  ro : Bool
  ty : TypeId
  xs : List X
  deriving Inhabited
abbrev HF := Nat → Option Blk
def BRel (M : Nm) (b : Nat) (k : Blk) (w : World) : Prop :=
  ∃ (arr : Array Value) (ty : TypeId) (fz : Nat × Nat), w.heap[M.φ b]? = some (.cells arr ty fz) ∧ (k.ro = false → ty = k.ty ∧ fz = (0, 0)) ∧ arr.size = M.κ b ∧ k.xs.length ≤ arr.size ∧ ∀ (i : Nat) x, k.xs[i]? = some x → ∃ u, arr[i]? = some u ∧ u.oneCell' = true ∧ RX M x u
structure XRel (n0 : Nat) (S : Nat → Prop) (M : Nm) (h : HF) (w : World) : Prop where
  blk : ∀ b k, h b = some k → BRel M b k w
  inj : ∀ b b' k k', h b = some k → h b' = some k' → M.φ b = M.φ b' → b = b'
  live : ∀ b k, h b = some k → S b
  bd : ∀ b k, h b = some k → bdL S k.xs
  lo : ∀ b k, h b = some k → k.ro = false → n0 ≤ M.φ b
theorem XRel.monoS {n0 : Nat} {S T : Nat → Prop} {M : Nm} {h : HF} {w : World} (hST : ∀ b, S b → T b) (r : XRel n0 S M h w) : XRel n0 T M h w :=
  ⟨r.blk, r.inj, fun b k e => hST b (r.live b k e), fun b k e => bdL_mono hST _ (r.bd b k e), r.lo⟩
theorem XRel.lt {n0 : Nat} {S : Nat → Prop} {M : Nm} {h : HF} {w : World} (r : XRel n0 S M h w) {b : Nat} {k : Blk} (e : h b = some k) : M.φ b < w.heap.size := by
  obtain ⟨arr, ty, fz, e1, _⟩ := r.blk b k e
  exact (Array.getElem?_eq_some_iff.1 e1).1
theorem BRel.mono {S : Nat → Prop} {M M' : Nm} {b : Nat} {k : Blk} {w : World} (h : Nm.le S M M') (hb : S b) (hx : bdL S k.xs) (r : BRel M b k w) : BRel M' b k w := by
  obtain ⟨arr, ty, fz, e1, e0, e2, e3, e4⟩ := r
  refine ⟨arr, ty, fz, by rw [(h b hb).1]; exact e1, e0, by rw [(h b hb).2]; exact e2, e3, fun i x hi => ?_⟩
  obtain ⟨u, f1, f2, f3⟩ := e4 i x hi
  exact ⟨u, f1, f2, RX_mono h x u (bdL_iff.1 hx x (List.mem_of_getElem? hi)) f3⟩
theorem BRel.at {M : Nm} {b : Nat} {k : Blk} {w w' : World} (r : BRel M b k w) (e : w'.heap[M.φ b]? = w.heap[M.φ b]?) : BRel M b k w' := by
  obtain ⟨arr, ty, fz, e1, e2⟩ := r
  exact ⟨arr, ty, fz, e.trans e1, e2⟩
def upd (h : HF) (b : Nat) (k : Option Blk) : HF := fun x => if x = b then k else h x
theorem upd_same (h : HF) (b : Nat) (k : Option Blk) : upd h b k b = k := by simp [upd]
theorem upd_other (h : HF) {b x : Nat} (k : Option Blk) (e : x ≠ b) : upd h b k x = h x := by simp [upd, e]
def SS (S : Nat → Prop) (nb : Nat) : Nat → Prop := fun b => S b ∨ b = nb
def Nm.new (M : Nm) (nb g n : Nat) : Nm := ⟨fun b => if b = nb then g else M.φ b, fun b => if b = nb then n else M.κ b⟩
theorem Nm.new_le {S : Nat → Prop} {M : Nm} {nb g n : Nat} (hn : ¬ S nb) : Nm.le S M (M.new nb g n) := fun b hb => by
  have : b ≠ nb := by rintro rfl; exact hn hb
  simp [Nm.new, this]
/-- blocks leave -/
theorem XRel.drop {n0 : Nat} {S : Nat → Prop} {M : Nm} {h : HF} {w : World} (r : XRel n0 S M h w) (b : Nat) : XRel n0 S M (upd h b none) w := by
  have get : ∀ c k, upd h b none c = some k → h c = some k := fun c k e => by
    by_cases hc : c = b
    · subst hc; rw [upd_same] at e; cases e
    · rwa [upd_other _ _ hc] at e
  exact ⟨fun c k e => r.blk c k (get c k e), fun c d k l e f g => r.inj c d k l (get c k e) (get d l f) g, fun c k e => r.live c k (get c k e), fun c k e => r.bd c k (get c k e), fun c k e => r.lo c k (get c k e)⟩
/-- the world turns at one block -/
theorem XRel.put {n0 : Nat} {S : Nat → Prop} {M : Nm} {h : HF} {w w' : World} (r : XRel n0 S M h w) {b : Nat} {k : Blk} (hb : h b = some k) (k' : Blk) (hro : k'.ro = k.ro) (hw : ∀ g, g ≠ M.φ b → w'.heap[g]? = w.heap[g]?)
    (hk : BRel M b k' w') (hx : bdL S k'.xs) : XRel n0 S M (upd h b (some k')) w' := by
  have get : ∀ c l, upd h b (some k') c = some l → c = b ∧ l = k' ∨ c ≠ b ∧ h c = some l := fun c l e => by
    by_cases hc : c = b
    · subst hc; rw [upd_same] at e; cases e; exact .inl ⟨rfl, rfl⟩
    · rw [upd_other _ _ hc] at e; exact .inr ⟨hc, e⟩
  have old : ∀ c l, upd h b (some k') c = some l → ∃ l0, h c = some l0 := fun c l e => by
    rcases get c l e with ⟨rfl, _⟩ | ⟨_, e⟩
    · exact ⟨k, hb⟩
    · exact ⟨l, e⟩
  refine ⟨fun c l e => ?_, fun c d l m e f g => ?_, fun c l e => ?_, fun c l e => ?_, fun c l e hro' => ?_⟩
  · rcases get c l e with ⟨rfl, rfl⟩ | ⟨hc, e⟩
    · exact hk
    · exact (r.blk c l e).at (hw _ fun hh => hc (r.inj c b l k e hb hh))
  · obtain ⟨l0, e0⟩ := old c l e
    obtain ⟨m0, f0⟩ := old d m f
    exact r.inj c d l0 m0 e0 f0 g
  · obtain ⟨l0, e0⟩ := old c l e
    exact r.live c l0 e0
  · rcases get c l e with ⟨rfl, rfl⟩ | ⟨hc, e⟩
    · exact hx
    · exact r.bd c l e
  · rcases get c l e with ⟨rfl, rfl⟩ | ⟨hc, e⟩
    · exact r.lo c k hb (by rw [← hro]; exact hro')
    · exact r.lo c l e hro'
/-- a new name: for a block that is new, or for one that no name stands for -/
theorem XRel.named {n0 : Nat} {S : Nat → Prop} {M : Nm} {h : HF} {w w' : World} (r : XRel n0 S M h w) {nb g n : Nat} (hn : ¬ S nb) (k : Blk) (hw : ∀ c l, h c = some l → w'.heap[M.φ c]? = w.heap[M.φ c]?)
    (hg : ∀ c l, h c = some l → M.φ c ≠ g) (hlo : n0 ≤ g) (hk : BRel (M.new nb g n) nb k w') (hx : bdL S k.xs) : XRel n0 (SS S nb) (M.new nb g n) (upd h nb (some k)) w' := by
  have hle : Nm.le S M (M.new nb g n) := Nm.new_le hn
  have hφ : ∀ c, c ≠ nb → (M.new nb g n).φ c = M.φ c := fun c e => by simp [Nm.new, e]
  have hφn : (M.new nb g n).φ nb = g := by simp [Nm.new]
  have get : ∀ c l, upd h nb (some k) c = some l → c = nb ∧ l = k ∨ c ≠ nb ∧ h c = some l := fun c l e => by
    by_cases hc : c = nb
    · subst hc; rw [upd_same] at e; cases e; exact .inl ⟨rfl, rfl⟩
    · rw [upd_other _ _ hc] at e; exact .inr ⟨hc, e⟩
  refine ⟨fun c l e => ?_, fun c d l m e f g' => ?_, fun c l e => ?_, fun c l e => ?_, fun c l e hro => ?_⟩
  · rcases get c l e with ⟨rfl, rfl⟩ | ⟨hc, e⟩
    · exact hk
    · exact ((r.blk c l e).mono hle (r.live c l e) (r.bd c l e)).at (by rw [hφ c hc]; exact hw c l e)
  · rcases get c l e with ⟨h1, _⟩ | ⟨hc, e1⟩
    · rcases get d m f with ⟨h2, _⟩ | ⟨hd, f1⟩
      · rw [h1, h2]
      · rw [h1, hφn, hφ d hd] at g'; exact absurd g'.symm (hg d m f1)
    · rcases get d m f with ⟨h2, _⟩ | ⟨hd, f1⟩
      · rw [h2, hφn, hφ c hc] at g'; exact absurd g' (hg c l e1)
      · rw [hφ c hc, hφ d hd] at g'; exact r.inj c d l m e1 f1 g'
  · rcases get c l e with ⟨rfl, rfl⟩ | ⟨hc, e⟩
    · exact .inr rfl
    · exact .inl (r.live c l e)
  · rcases get c l e with ⟨rfl, rfl⟩ | ⟨hc, e⟩
    · exact bdL_mono (fun _ hb => .inl hb) _ hx
    · exact bdL_mono (fun _ hb => .inl hb) _ (r.bd c l e)
  · rcases get c l e with ⟨rfl, rfl⟩ | ⟨hc, e⟩
    · rw [hφn]; exact hlo
    · rw [hφ c hc]; exact r.lo c l e hro
/-- names of package-level variables; what is laid there -/
structure GlS (n0 ng : Nat) (S : Nat → Prop) (M : Nm) (w : World) : Prop where
  g : ∀ g, g < ng → S g ∧ M.φ g = g
  ld : ∀ b cs, (b, cs) ∈ Ab.laidL → b < n0 ∧ ∀ (j : Nat) u, cs[j]? = some u → w.cell? ⟨b, j, none⟩ = some u
theorem GlS.next {n0 ng : Nat} {S S' : Nat → Prop} {M M' : Nm} {w w' : World} (h : GlS n0 ng S M w) (hS : ∀ b, S b → S' b) (hle : Nm.le S M M') (hb : Below n0 w w') : GlS n0 ng S' M' w' :=
  ⟨fun g hg => ⟨hS g (h.g g hg).1, ((hle g (h.g g hg).1).1).trans (h.g g hg).2⟩, fun b cs hm => ⟨(h.ld b cs hm).1, fun j u hj => by
    rw [World.cell?_of_block (w := w) (hb.block b (h.ld b cs hm).1)]; exact (h.ld b cs hm).2 j u hj⟩⟩
/-- an activation, its world -/
structure St (n0 ng N : Nat) (S : Nat → Prop) (M : Nm) (f : Nat → X) (h : HF) (a : Act) (w : World) : Prop where
  rel : XRel n0 S M h w
  fr : ∀ t, RX M (f t) (a.tmps.getD t undef)
  bd : ∀ t, (f t).bd S
  size : a.tmps.size = N
  defers : a.defers = []
  hi : n0 ≤ w.heap.size
  gl : GlS n0 ng S M w
def evX (ng : Nat) (f : Nat → X) : Operand → X
  | .tmp t => f t
  | .const v => .v v
  | .func g => .fn g [] []
  | .global g => if g < ng then .ptr g 0 else .junk
theorem St.ev {n0 ng N S M f h a w} (st : St n0 ng N S M f h a w) (x : Operand) : RX M (evX ng f x) (a.eval x) := by
  cases x with
  | tmp t => exact st.fr t
  | const v => simp [evX, RX, Act.eval]
  | func g => simp only [evX, RX, Act.eval]; exact ⟨#[], #[], rfl, by simp [RXL], by simp [RXL]⟩
  | global g =>
    simp only [evX]
    split
    · rename_i hg
      simp only [RX, Act.eval]; rw [(st.gl.g g hg).2]
    · simp [RX]
theorem St.evbd {n0 ng N S M f h a w} (st : St n0 ng N S M f h a w) (x : Operand) : (evX ng f x).bd S := by
  cases x with
  | tmp t => exact st.bd t
  | const v => simp [evX, X.bd]
  | func g => simp [evX, X.bd, bdL]
  | global g =>
    simp only [evX]
    split
    · rename_i hg
      simp only [X.bd]; exact (st.gl.g g hg).1
    · simp [X.bd]
end Go.Ev
