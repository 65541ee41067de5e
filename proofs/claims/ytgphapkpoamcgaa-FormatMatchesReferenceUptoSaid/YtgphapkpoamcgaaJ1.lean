/- strings.Join: the shelf's contract, as the logic's. -/
import Derived.Test.YtgphapkpoamcgaaS0
import Derived.Test.YtgphapkpoamcgaaProg
import Derived.Shelf.Strings.OnBuilder
import Derived.Shelf.Strings.BuilderX
set_option maxRecDepth 10000
set_option linter.unusedVariables false
namespace Go.Proofs.Ytgphapkpoamcgaa
open Go Go.Ab Go.Shelf Go.RowKit
def joinRen : Ren where
  f := fun x => match x with
    | 156 => 112
    | 165 => 123
    | 166 => 124
    | 169 => 125
    | 240 => 127
    | 241 => 128
    | 276 => 129
    | 277 => 130
    | n => n
  t := fun x => match x with
    | 31 => 44
    | 9 => 9
    | 3 => 3
    | 4 => 4
    | 0 => 0
    | 20 => 20
    | 72 => 147
    | 76 => 151
    | 70 => 144
    | 37 => 145
    | 75 => 150
    | 127 => 155
    | 164 => 156
    | 5 => 5
    | 80 => 153
    | n => n
  g := fun n => n
theorem joinLays : Lays.n156 Try.prog joinRen :=
{ mixed := Eq.refl true, f156 := Eq.trans Try.func112 (congrArg some (Eq.refl (Body.n156 joinRen))),
  f165 := Eq.trans Try.func123 (congrArg some (Eq.refl (Body.n165 joinRen))),
  f166 := Eq.trans Try.func124 (congrArg some (Eq.refl (Body.n166 joinRen))),
  f169 := Eq.trans Try.func125 (congrArg some (Eq.refl (Body.n169 joinRen))),
  f240 := Eq.trans Try.func127 (congrArg some (Eq.refl (Body.n240 joinRen))),
  f241 := Eq.trans Try.func128 (congrArg some (Eq.refl (Body.n241 joinRen))),
  f276 := Eq.trans Try.func129 (congrArg some (Eq.refl (Body.n276 joinRen))),
  f277 := Eq.trans Try.func130 (congrArg some (Eq.refl (Body.n277 joinRen))), t0 := Try.underlying0,
  a0 := Try.isAgg0, z0 := Try.sizeOf0, v0 := Try.zeroValue0, t3 := Try.underlying3, a3 := Try.isAgg3, z3 := Try.sizeOf3,
  v3 := Try.zeroValue3, t4 := Try.underlying4, a4 := Try.isAgg4, z4 := Try.sizeOf4, v4 := Try.zeroValue4,
  t9 := Try.underlying9, a9 := Try.isAgg9, z9 := Try.sizeOf9, v9 := Try.zeroValue9, t20 := Try.underlying20,
  a20 := Try.isAgg20, z20 := Try.sizeOf20, v20 := Try.zeroValue20, t31 := Try.underlying44, a31 := Try.isAgg44,
  z31 := Try.sizeOf44, v31 := Try.zeroValue44, t37 := Try.underlying145, a37 := Try.isAgg145, z37 := Try.sizeOf145,
  v37 := Try.zeroValue145, t70 := Try.underlying144, a70 := Try.isAgg144, z70 := Try.sizeOf144, v70 := Try.zeroValue144,
  t72 := Try.underlying147, a72 := Try.isAgg147, z72 := Try.sizeOf147, v72 := Try.zeroValue147,
  t75 := Try.underlying150, a75 := Try.isAgg150, z75 := Try.sizeOf150, v75 := Try.zeroValue150,
  t76 := Try.underlying151, a76 := Try.isAgg151, z76 := Try.sizeOf151, v76 := Try.zeroValue151,
  t127 := Try.underlying155, a127 := Try.isAgg155, z127 := Try.sizeOf155, v127 := Try.zeroValue155,
  t164 := Try.underlying156, a164 := Try.isAgg156, z164 := Try.sizeOf156, v164 := Try.zeroValue156 }
theorem joinExtra : Builder.Extra Try.prog joinRen where
  sizeBuilder := by kernel_rfl
  liesBuilder := by kernel_rfl
  t5 := Try.underlying5
  a5 := Try.isAgg5
  z5 := Try.sizeOf5
  v5 := Try.zeroValue5
  infoByte := by kernel_rfl
  cellsByte := by kernel_rfl
  sizeByte := by kernel_rfl
  neB5 := by decide
/-- a string, as a list of its bytes -/
def bs (l : List UInt8) : PV := .lit (.string ⟨l.toArray⟩)
def encStr (xs : List (List UInt8)) : List PV := xs.map bs
theorem RPE_at {I : Imm} {ad : Addr} {sz : Nat} : ∀ (xs : List PV) (k : Nat), RPE I ad k sz xs → ∀ j x, xs[j]? = some x → RPC I ad (k + j * sz) x.cells
  | [], k, h, j, x, e => by simp at e
  | y :: ys, k, h, j, x, e => by
    rw [RPE_cons] at h
    cases j with
    | zero => simp at e; subst e; simpa using h.2.1
    | succ j =>
      have := RPE_at ys (k + sz) h.2.2 j x (by simpa using e)
      have e2 : k + sz + j * sz = k + (j + 1) * sz := by rw [Nat.add_mul]; omega
      rwa [e2] at this
theorem cell_lt {w : World} {a : Addr} {v : Value} (h : w.cell? a = some v) : a.block < w.heap.size ∧ a.spot = none := by
  unfold World.cell? at h
  split at h
  · rename_i e
    refine ⟨?_, ?_⟩
    · rcases Nat.lt_or_ge a.block w.heap.size with hb | hb
      · exact hb
      · rw [Array.getElem?_eq_none hb] at e; cases e
    · split at h
      · cases h
      · rename_i hs; simpa using hs
  · cases h
theorem immBelow {I : Imm} {w w' : World} (hI : ImmOk I w) (hb : Below w.heap.size w w') : ImmOk I w' := fun a v h => by
  have := hI a v h
  rw [hb.cell (cell_lt this).1]; exact this
theorem join_map (xs : List (List UInt8)) : (xs.map fun l => (⟨l.toArray⟩ : ByteArray)).map (fun x => x.data.toList) = xs := by
  rw [List.map_map]; exact (List.map_congr_left fun l _ => by simp).trans (List.map_id _)
theorem join_ok (xs : List (List UInt8)) (sep : List UInt8) (hlen : (Lib.join xs sep).length ≤ 140737488355328) : PCall Try.prog 112 [.list 1 (encStr xs), bs sep] (bs (Lib.join xs sep)) := by
  refine ⟨⟨_, Try.func112, rfl, rfl⟩, fun I w us hI hus => ?_⟩
  simp only [RPL, bs, RP] at hus
  obtain ⟨u1, _, rfl, ⟨a, n, cap, rfl, hn, hcap, hbig, hcells⟩, u2, _, rfl, rfl, rfl⟩ := hus
  have hn' : n = xs.length := by simpa [encStr] using hn
  have hdone : ∀ (e : Ending) (w' : World), (e = .returned (.string ⟨(Lib.join xs sep).toArray⟩) ∧ Below w.heap.size w w') →
      ∃ u J, e = .returned u ∧ I.le J ∧ (∀ a v, J a = some v → a.block < w.heap.size → I a = some v) ∧ ImmOk J w' ∧ RP J (bs (Lib.join xs sep)) u ∧ Below w.heap.size w w' := by
    rintro e w' ⟨rfl, hb⟩
    exact ⟨_, I, rfl, .refl _, fun a v h _ => h, immBelow hI hb, rfl, hb⟩
  cases hx : xs with
  | nil =>
    subst hx
    have h0 : n = 0 := by simpa using hn'
    subst h0
    exact (Any.strings_Join_none joinLays joinExtra a cap ⟨sep.toArray⟩ w).mono fun e w' h => hdone e w' ⟨h.1, by rw [h.2]; exact Below.refl _ _⟩
  | cons x rest =>
    rcases hcells with h0 | ⟨ad, rfl, hc⟩
    · rw [hx] at hn'; simp at hn'; omega
    · rw [← hx]
      have hcell : ∀ (j : Nat) (l : List UInt8), xs[j]? = some l → w.cell? (ad.add j) = some (.string ⟨l.toArray⟩) := fun j l e => by
        have := RPE_at (encStr xs) 0 hc j (bs l) (by simp [encStr, e])
        simp only [bs, PV.cells, RPC, Nat.zero_add, Nat.mul_one, RP, and_true] at this
        obtain ⟨u, h1, _, rfl⟩ := this
        exact hI _ _ h1
      have h0 := hcell 0 x (by rw [hx]; rfl)
      have hsp := cell_lt h0
      have had : ad = ⟨ad.block, ad.off, none⟩ := by
        have : ad.spot = none := by simpa [Addr.add] using hsp.2
        cases ad; simp only at this; subst this; rfl
      have hbk : ad.block < w.heap.size := by simpa [Addr.add] using hsp.1
      have key := Any.strings_Join joinLays joinExtra ad.block ad.off cap (xs.map fun l => (⟨l.toArray⟩ : ByteArray)) ⟨sep.toArray⟩ w (fun j y e => by
        rw [List.getElem?_map] at e
        cases hl : xs[j]? with
        | none => rw [hl] at e; cases e
        | some l =>
          rw [hl] at e
          simp only [Option.map_some, Option.some.injEq] at e
          subst e
          have := hcell j l hl
          rw [had] at this
          unfold Addr.add at this
          split at this
          · rename_i h; subst h; simpa using this
          · simpa using this) hbk (by simp; unfold big at hbig; omega) (by simp; omega) (by rw [join_map]; simpa using hlen)
      rw [← had] at key
      simp only [List.length_map, join_map] at key
      rw [← hn'] at key
      exact key.mono hdone
end Go.Proofs.Ytgphapkpoamcgaa
