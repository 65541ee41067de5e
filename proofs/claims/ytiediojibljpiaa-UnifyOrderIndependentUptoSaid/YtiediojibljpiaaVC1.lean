/- C1: joined from C1. -/
import Derived.Test.YtiediojibljpiaaVTbl
import Derived.Test.YtiediojibljpiaaRows
import Derived.ProofKit
import Derived.OpenShut
import Derived.JoinedCond
/- What a law's statement asks of the program's text, reckoned in small pieces: which functions are reached, by a table. -/
set_option maxRecDepth 100000
namespace Go.Proofs.Ytiediojibljpiaa
open Go
def viaT (T : List (List Nat)) : Nat → List Nat → List Nat → List Nat
  | 0, _, seen => seen.reverse
  | _ + 1, [], seen => seen.reverse
  | n + 1, f :: todo, seen => if seen.contains f then viaT T n todo seen else viaT T n ((T[f]?).getD [] ++ todo) (f :: seen)
theorem leads (f : Nat) : (Try.prog.funcs[f]?).elim [] Try.prog.leadsTo = (tbl[f]?).getD [] := by
  rw [← tbl_ok, List.getElem?_map, Array.getElem?_toList]
  cases Try.prog.funcs[f]? <;> rfl
theorem via_eq : ∀ (n : Nat) (todo seen : List Nat), Try.prog.closureVia n todo seen = viaT tbl n todo seen
  | 0, todo, seen => by simp only [Program.closureVia, viaT]
  | n + 1, [], seen => by simp only [Program.closureVia, viaT]
  | n + 1, f :: todo, seen => by
    simp only [Program.closureVia, viaT, leads]
    split
    · exact via_eq n todo seen
    · exact via_eq n _ _
def reach (f : Nat) : List Nat := viaT tbl (1 + (tbl.map fun l => l.length + 1).sum) [f] []
theorem closure_eq (f : Nat) : Try.prog.closure f = reach f := by
  unfold Program.closure reach
  rw [via_eq, ← tbl_ok, List.map_map]
  rfl
theorem rec_of {f : Nat} (g h : Nat) (h1 : (reach f).contains g = true) (h2 : ((tbl[g]?).getD []).contains h = true) (h3 : (reach h).contains g = true) : Try.prog.recurses f = true := by
  unfold Program.recurses
  rw [Bool.or_eq_true]
  right
  rw [closure_eq, List.any_eq_true]
  refine ⟨g, by simpa using h1, ?_⟩
  rw [leads, List.any_eq_true]
  exact ⟨h, by simpa using h2, by rw [closure_eq]; exact h3⟩
theorem band {a b : Bool} (h1 : a = true) (h2 : b = true) : (a && b) = true := by rw [h1, h2]; rfl
theorem laid_ok : laidOutB Try.prog = true := by kernel_rfl
theorem maps_ok : mapsRowed Try.prog = true := by kernel_rfl
theorem stops_ok : (Try.prog.stops == []) = true := by kernel_rfl
theorem knobs_ok : (Try.prog.stopKnobs == []) = true := by kernel_rfl
theorem heard_ok : Try.prog.stopsHeard = true := by kernel_rfl
theorem plain_ok : (true == Try.prog.plainKeys) = true := by kernel_rfl
theorem own_ok : ownKnob Try.prog.godebug = none := by kernel_rfl
theorem io_lit : Try.prog.initOrder = String.ofList (ioN.map Char.ofNat) := by kernel_rfl
theorem io_ok : Try.prog.initOrder.toList = ioN.map Char.ofNat := by rw [io_lit]; exact String.toList_ofList
def spChr : Char := Char.ofNat 32
def wsN : List Nat → List Nat → List (List Nat)
  | [], acc => [acc.reverse]
  | c :: r, acc => if Nat.beq c 32 then acc.reverse :: wsN r [] else wsN r (c :: acc)
theorem words_sp (r : List Char) : wordsSigns (spChr :: r) = [] :: wordsSigns r := rfl
theorem words_c {c : Char} (h : ¬ c = spChr) (r : List Char) : wordsSigns (c :: r) = match wordsSigns r with
    | w :: l => (c :: w) :: l
    | [] => [[c]] := by
  rw [wordsSigns.eq_3 _ _ (fun e => h e)]
  split <;> simp_all
theorem chr_sp {n : Nat} (h : n < 128) (e : Char.ofNat n = spChr) : n = 32 := by
  have : ∀ m : Fin 128, Char.ofNat m.val = spChr → m.val = 32 := by decide
  exact this ⟨n, h⟩ e
theorem ws_eq : ∀ (l acc : List Nat), (∀ n ∈ l, n < 128) → ∃ w r, wordsSigns (l.map Char.ofNat) = w :: r ∧ (wsN l acc).map (List.map Char.ofNat) = ((acc.reverse).map Char.ofNat ++ w) :: r
  | [], acc, _ => ⟨[], [], rfl, by simp [wsN]⟩
  | c :: l, acc, hb => by
    have hb' : ∀ n ∈ l, n < 128 := fun n hn => hb n (by simp [hn])
    by_cases h : c = 32
    · subst h
      obtain ⟨w, r, h1, h2⟩ := ws_eq l [] hb'
      refine ⟨[], wordsSigns (l.map Char.ofNat), words_sp _, ?_⟩
      have hb : Nat.beq 32 32 = true := rfl
      simp only [wsN, hb, if_true, List.append_nil, List.map_cons]
      rw [h2, h1]; rfl
    · obtain ⟨w, r, h1, h2⟩ := ws_eq l (c :: acc) hb'
      have hc : ¬ Char.ofNat c = spChr := fun e => h (chr_sp (hb c (by simp)) e)
      refine ⟨Char.ofNat c :: w, r, by rw [List.map_cons, words_c hc, h1], ?_⟩
      have hn : Nat.beq c 32 = false := by
        cases e : Nat.beq c 32 with
        | false => rfl
        | true => exact absurd (Nat.eq_of_beq_eq_true e) h
      simp only [wsN, hn, Bool.false_eq_true, if_false, h2]
      simp
theorem io_small : ∀ n ∈ ioN, n < 128 := by
  have : (ioN.all fun n => Nat.blt n 128) = true := by kernel_rfl
  intro n hn
  have := List.all_eq_true.1 this n hn
  simpa [Nat.blt_eq] using this
theorem ws_ok : wsN ioN [] = ioW := by kernel_rfl
theorem io_ws : wordsSigns Try.prog.initOrder.toList = ioW.map (List.map Char.ofNat) := by
  obtain ⟨w, r, h1, h2⟩ := ws_eq ioN [] io_small
  rw [io_ok, h1, ← ws_ok, h2]; rfl
def mkW (ws : List (List Char)) : Option Make :=
  match behindMainWord ws with
  | c :: rest => if c == "gc".toList || c == "spec".toList then some .whole else if c == "cut".toList || (c == "finals".toList && rest.head? == some "cut".toList) then some .cut else none
  | [] => none
theorem mkW_ok : mkW (ioW.map (List.map Char.ofNat)) = some .cut := by kernel_rfl
theorem make_of (P : Program) (W : List (List Char)) (h : wordsSigns P.initOrder.toList = W) (hW : mkW W = some .cut) : P.make = some .cut := by
  unfold Program.make
  rw [h]
  unfold mkW at hW
  revert hW
  cases behindMainWord W with
  | nil => intro hW; cases hW
  | cons c rest =>
    simp only
    intro hW
    split
    · rename_i h1; rw [if_pos h1] at hW; exact hW
    · rename_i h1
      rw [if_neg h1] at hW
      split
      · rfl
      · rename_i h2; rw [if_neg h2] at hW; cases hW
theorem make_ok : Try.prog.make = some .cut := make_of _ _ io_ws mkW_ok

def bw : List (List Char) := behindMainWord (ioW.map (List.map Char.ofNat))
theorem bw_cons : bw = bw.headD [] :: bw.tail := by kernel_rfl
theorem bw_strip : stripLifts liftWords (bw.headD [] :: bw.tail) = ([], bw.headD [] :: bw.tail) := by kernel_rfl
theorem bw_cut : (some (bw.headD []) == some "cut".toList) = true := by kernel_rfl
theorem lays_ok : Try.prog.laysLater = false := by kernel_rfl
theorem refl_ok : Try.prog.bearsReflect = false := by kernel_rfl
theorem door_ok : Try.prog.doorFits [] = true := by kernel_rfl
theorem enter_of (P : Program) (c : List Char) (rest : List (List Char)) (h : behindMainWord (wordsSigns P.initOrder.toList) = c :: rest) (hs : stripLifts liftWords (c :: rest) = ([], c :: rest))
    (hc : (some c == some "cut".toList) = true) (h1 : P.laysLater = false) (h2 : P.bearsReflect = false) (h3 : P.doorFits [] = true) : P.mayEnter = true := by
  unfold Program.mayEnter
  rw [h]
  simp only [hs, h1, h2, h3, List.head?_cons, hc, Bool.not_false, Bool.or_true, Bool.and_true, Bool.true_and]
  simp
theorem enter_ok : Try.prog.mayEnter = true := enter_of _ _ _ (by rw [io_ws]; exact bw_cons) bw_strip bw_cut lays_ok refl_ok door_ok
theorem lifts_of (P : Program) (W : List (List Char)) (h : wordsSigns P.initOrder.toList = W) (h1 : ((behindMainWord W).head? == some "carried".toList) = false) (h2 : stripLifts liftWords (behindMainWord W) = ([], behindMainWord W)) : P.liftsFinal = false := by
  unfold Program.liftsFinal Program.headLifts
  simp only [h, h1, h2, Bool.false_and, Bool.false_or]
  split <;> rfl
theorem lifts_ok : Try.prog.liftsFinal = false := lifts_of _ _ io_ws (by kernel_rfl) (by kernel_rfl)
end Go.Proofs.Ytiediojibljpiaa
