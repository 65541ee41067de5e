/- X13: joined from XE13. -/
import Derived.Test.YtckjkdhmljfeeaaGreatDoorX12
/- A whole run as a contract. -/
set_option linter.unusedVariables false
set_option linter.unusedSimpArgs false
namespace Go.Ev
open Go Go.RowKit
def noOrc : CallF := fun _ _ _ _ => none
section
variable {P : Program} {ng : Nat} {orc : CallF}
theorem noOrc_ok : CallsOk P ng noOrc := fun _ _ _ _ _ _ _ h => by cases h
/-- the package-level variables that are laid -/
def glb : List (Nat × List Value) → T Blk
  | [] => .e
  | (b, cs) :: l => T.put dpt (glb l) b (some ⟨true, 0, cs.map .v⟩)
def glbOk (ng : Nat) : List (Nat × List Value) → Bool
  | [] => true
  | (b, cs) :: l => Nat.ble (b + 1) ng && Nat.ble b lim && !cs.isEmpty && cs.all Value.oneCell' && glbOk ng l
theorem glb_get : ∀ (l : List (Nat × List Value)), glbOk ng l = true → ∀ b k, hD (glb l) b = some k → ∃ cs, (b, cs) ∈ l ∧ k = ⟨true, 0, cs.map .v⟩ ∧ b < ng ∧ cs ≠ [] ∧ ∀ u ∈ cs, u.oneCell' = true
  | [], _, b, k, h => by simp [glb, hD, T.get_e] at h
  | (b0, cs) :: l, hg, b, k, h => by
    simp only [glbOk, Bool.and_eq_true] at hg
    obtain ⟨⟨⟨⟨h1, h2⟩, h3⟩, h4⟩, h5⟩ := hg
    simp only [glb, hD, get_put (Nat.le_of_ble_eq_true h2)] at h
    by_cases hb : b = b0
    · rw [if_pos hb] at h
      cases h
      exact ⟨cs, by simp [hb], rfl, by rw [hb]; exact Nat.le_of_ble_eq_true h1, fun e => by rw [e] at h3; simp at h3, fun u hu => List.all_eq_true.1 h4 u hu⟩
    · rw [if_neg hb] at h
      obtain ⟨cs', q1, q2⟩ := glb_get l h5 b k h
      exact ⟨cs', by simp [q1], q2⟩
/-- what is laid lies there -/
def LdW (w : World) : Prop := ∀ b cs, (b, cs) ∈ Ab.laidL → ∀ (j : Nat) u, cs[j]? = some u → w.cell? ⟨b, j, none⟩ = some u
theorem _root_.Go.Ab.ImmOk.cells {I : Ab.Imm} {w : World} (hI : Ab.ImmOk I w) : LdW w := fun b cs hm j u hj => hI.ok _ _ (hI.laid b cs hm j u hj)
abbrev M0 (w : World) : Nm := ⟨fun b => b, fun b => match w.heap[b]? with | some (.cells c _ _) => c.size | _ => 0⟩
theorem glb_mem : ∀ (l : List (Nat × List Value)), glbOk ng l = true → ∀ b cs, (b, cs) ∈ l → cs ≠ []
  | [], _, b, cs, h => by cases h
  | (b0, cs0) :: l, hg, b, cs, h => by
    simp only [glbOk, Bool.and_eq_true] at hg
    obtain ⟨⟨⟨⟨h1, h2⟩, h3⟩, h4⟩, h5⟩ := hg
    rcases List.mem_cons.1 h with h | h
    · cases h; intro e; rw [e] at h3; simp at h3
    · exact glb_mem l h5 b cs h
theorem glb_gl {w : World} (hI : LdW w) (hg : glbOk ng Ab.laidL = true) : GlS w.heap.size ng (fun b => b < ng) (M0 w) w :=
  ⟨fun g hg => ⟨hg, rfl⟩, fun b cs hm => ⟨by
    obtain ⟨u0, cs', rfl⟩ : ∃ u0 cs', cs = u0 :: cs' := by cases cs with | nil => exact absurd rfl (glb_mem _ hg b _ hm) | cons a l => exact ⟨a, l, rfl⟩
    exact World.block_lt_of_cell? w _ (hI b _ hm 0 u0 (by simp)), hI b cs hm⟩⟩
theorem glb_rel {w : World} (hI : LdW w) (hg : glbOk ng Ab.laidL = true) : XRel w.heap.size (fun b => b < ng) (M0 w) (hD (glb Ab.laidL)) w := by
  have get := glb_get (ng := ng) Ab.laidL hg
  refine ⟨fun b k e => ?_, fun b b' k k' e e' h => h, fun b k e => ?_, fun b k e => ?_, fun b k e hro => ?_⟩
  · obtain ⟨cs, hm, rfl, hb, hne, hone⟩ := get b k e
    have hcell : ∀ (j : Nat) u, cs[j]? = some u → w.cell? ⟨b, j, none⟩ = some u := hI b cs hm
    obtain ⟨u0, cs', rfl⟩ : ∃ u0 cs', cs = u0 :: cs' := by cases cs with | nil => exact absurd rfl hne | cons a l => exact ⟨a, l, rfl⟩
    have h0 := hcell 0 u0 (by simp)
    cases hh : w.heap[b]? with
    | none => simp [World.cell?, hh] at h0
    | some obj =>
      cases obj with
      | cells arr ty fz =>
        have hget : ∀ (j : Nat) u, (u0 :: cs')[j]? = some u → arr[j]? = some u := fun j u hj => by
          have := hcell j u hj
          simpa [World.cell?, hh] using this
        refine ⟨arr, ty, fz, hh, (fun h => by cases h), by simp [hh], ?_, fun j x hj => ?_⟩
        · have hl := hget (u0 :: cs').length.pred ((u0 :: cs')[cs'.length]'(by simp)) (by simp)
          have := (Array.getElem?_eq_some_iff.1 hl).1
          simp only [List.length_map, List.length_cons, Nat.pred_succ] at this ⊢
          omega
        · simp only [List.getElem?_map, Option.map_eq_some_iff] at hj
          obtain ⟨u, hu, rfl⟩ := hj
          exact ⟨u, hget j u hu, hone u (List.mem_of_getElem? hu), by simp [RX]⟩
      | _ => simp [World.cell?, hh] at h0
  · obtain ⟨cs, hm, rfl, hb, _⟩ := get b k e
    exact hb
  · obtain ⟨cs, hm, rfl, hb, _⟩ := get b k e
    exact bdL_vs _
  · obtain ⟨cs, hm, rfl, hb, _⟩ := get b k e
    cases hro
theorem RPL_lits {I : Ab.Imm} : ∀ {vs us : List Value}, Ab.RPL I (vs.map .lit) us → us = vs
  | [], us, h => by simpa [Ab.RPL] using h
  | v :: vs, us, h => by
    simp only [List.map_cons, Ab.RPL] at h
    obtain ⟨u, us', rfl, h1, h2⟩ := h
    simp only [Ab.RP] at h1
    rw [h1, RPL_lits h2]
theorem call_pcall (hg : glbOk ng Ab.laidL = true) {g : FuncId} {args : List Value} {r : Value} {H' : T Blk} {nb' : Nat} (h : CallOk P ng g (args.map .v) (hD (glb Ab.laidL)) ng (.v r) (hD H') nb') : Ab.PCall P g (args.map .lit) (.lit r) := by
  obtain ⟨hle, hen, hc⟩ := h
  refine ⟨hen, fun I w us hI hus => ?_⟩
  have hu := RPL_lits hus
  subst hu
  refine (hc w.heap.size _ _ w us (glb_rel hI.cells hg) (Nat.le_refl _) (glb_gl hI.cells hg) (RXL_vs us) (bdL_vs us) (fun b h1 h2 h3 => absurd h3 (Nat.not_lt.2 h1))).mono fun e w' ⟨u, M', he, _, _, hb, hr, _⟩ => ?_
  simp only [RX] at hr
  subst hr
  refine ⟨_, I, he, fun a v h => h, fun a v h _ => h, ⟨fun a v e => ?_, hI.laid⟩, by simp only [Ab.RP], hb⟩
  rw [World.cell?_of_block (hb.block a.block (World.block_lt_of_cell? w a (hI.ok a v e)))]
  exact hI.ok a v e
/-- what a run returns, where that is a value without memory -/
def retV (r : Option (X × T Blk × Nat)) : Option Value := match r with
  | some (x, _, _) => toV x
  | none => none
def retB (r : Option (X × T Blk × Nat)) : Option Bool := match r with
  | some (.v (.bool b), _, _) => some b
  | _ => none
theorem run_bool (hm : P.follows .mixedOrders = true) (hN : noNG P) (horc : CallsOk P ng orc) (hg : glbOk ng Ab.laidL = true) {n : Nat} {g : FuncId} {args : List Value} {b : Bool} (h : retB (callF (ev P ng orc n) P orc g (args.map .v) (glb Ab.laidL) ng) = some b) :
    Ab.PCall P g (args.map .lit) (.lit (.bool b)) := by
  unfold retB at h
  split at h
  · rename_i b' H' nb' hr
    simp only [Option.some.injEq] at h; subst h
    exact call_pcall hg (callF_ok hN horc (ev_ok hm hN horc n) _ _ _ _ _ _ _ hr)
  · cases h
end
end Go.Ev
