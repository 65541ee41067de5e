/- E1: joined from W21. -/
import Derived.Test.YtgphapkpoamcgaaDoorB1
import Derived.Test.YtgphapkpoamcgaaDoorC2
import Derived.Test.YtgphapkpoamcgaaDoorCards
import Derived.Test.YtgphapkpoamcgaaDoorTie
import Derived.ProofKit
import Derived.OpenShut
import Derived.Deep.DeepHandedRow
import Derived.Deep.DeepWitnessRowRef
import Derived.Lib.LaidU8
import Derived.LaidMore
import Derived.Lay
/- PositionReference: for every source, offset and position the law returns true. Condition: what comes in is of bulk at most 1048576; the two listed variables of the library (unicode/utf8's tables) read as their text lays them (tied). -/
set_option maxRecDepth 100000
namespace Go.Proofs.YtgphapkpoamcgaaDoor.positionReference
open Go Go.ChangeShapes Go.WideShapes Go.ChangeAt Go.RowKit Go.Ab
theorem own : ownKnob Tryd.prog.godebug = none := by kernel_rfl
theorem laid_ok : laidOutB Tryd.prog = true := by kernel_rfl
theorem n1 : Tryd.prog.globalNamed "unicode/utf8.first" = some 1 := by kernel_rfl
theorem n2 : Tryd.prog.globalNamed "unicode/utf8.acceptRanges" = some 2 := by kernel_rfl
theorem y1 : (Tryd.prog.globals[1]?).map (·.type) = some 51 := by kernel_rfl
theorem y2 : (Tryd.prog.globals[2]?).map (·.type) = some 55 := by kernel_rfl
theorem k5 : Tryd.prog.cellsOf 5 = 1 := by kernel_rfl
theorem k51 : Tryd.prog.cellsOf 51 = 256 := by kernel_rfl
theorem k54 : Tryd.prog.cellsOf 54 = 2 := by kernel_rfl
theorem d1 : (Rows.laid_unicode_utf8_first : DataW Unit) = Go.Lib.firstData := by kernel_rfl
theorem d2 : (Rows.laid_unicode_utf8_acceptRanges : DataW Unit) = Go.Lib.acceptData := by kernel_rfl
theorem tab1w {W : World} (h3 : Go.Lib.VarReads Tryd.prog W "unicode/utf8.first" Go.Lib.firstData) : ∀ c, c < 256 → W.cell? ⟨1, c, none⟩ = some (.int .u8 (Go.Lib.firstT c)) := by
  intro c hc
  obtain ⟨g, t, cs, fuel, p, hg, hty, hvar, hd⟩ := h3
  obtain rfl := Option.some.inj (n1.symm.trans hg)
  obtain rfl := Option.some.inj (y1.symm.trans hty)
  have hcs := Go.Lib.cells_of_tab Tryd.underlying51 Tryd.underlying5 k5 k51 hd
  rw [World.var?_cell hg hvar c, ← Array.getElem?_toList, hcs]
  simp [Go.Lib.firstTab, hc]
theorem tab2w {W : World} (h4 : Go.Lib.VarReads Tryd.prog W "unicode/utf8.acceptRanges" Go.Lib.acceptData) : ∀ i, i < 16 → W.cell? ⟨2, 2 * i, none⟩ = some (.int .u8 (Go.Lib.accLo i)) ∧ W.cell? ⟨2, 2 * i + 1, none⟩ = some (.int .u8 (Go.Lib.accHi i)) := by
  intro i hi
  obtain ⟨g, t, cs, fuel, p, hg, hty, hvar, hd⟩ := h4
  obtain rfl := Option.some.inj (n2.symm.trans hg)
  obtain rfl := Option.some.inj (y2.symm.trans hty)
  obtain ⟨fuel', d, q, hdi, he⟩ := Go.Lib.array_elem Tryd.underlying55 hd i hi
  simp only [List.getElem?_map, List.getElem?_range hi, Option.map_some, Option.some.injEq] at hdi
  subst hdi
  rw [k54] at he
  have hcs := Go.Lib.ints_of_struct Tryd.underlying54 (fun j f hj => by
    match j, hj with
    | 0, hj => simp at hj; subst hj; exact ⟨Tryd.underlying5, rfl, k5⟩
    | 1, hj => simp at hj; subst hj; exact ⟨Tryd.underlying5, rfl, k5⟩
    | j + 2, hj => simp at hj) (by rw [k54]; rfl) he
  have e0 := congrArg (·[0]?) hcs
  have e1 := congrArg (·[1]?) hcs
  simp only [List.getElem?_take, List.getElem?_drop] at e0 e1
  constructor
  · rw [World.var?_cell hg hvar (2 * i), ← Array.getElem?_toList]
    simpa [Nat.mul_comm] using e0
  · rw [World.var?_cell hg hvar (2 * i + 1), ← Array.getElem?_toList]
    simpa [Nat.mul_comm] using e1
theorem tab {W : World} (h : laidMetH Tryd.prog Rows.positionReferenceUptoRow.laid W) : Laid fun a => W.cell? a := by
  rw [MakeChecks.laidMetH_plain _ _ _ (by kernel_rfl)] at h
  have h1 := tab1w (Go.Lib.laidMet.reads h (n := "unicode/utf8.first") (d := Go.Lib.firstData) (by rw [← d1]; exact List.mem_cons_of_mem _ (List.mem_singleton.2 rfl)))
  have h2 := tab2w (Go.Lib.laidMet.reads h (n := "unicode/utf8.acceptRanges") (d := Go.Lib.acceptData) (by rw [← d2]; exact List.mem_cons_self ..))
  intro b cs hm j u hj
  unfold laidL at hm
  rcases List.mem_cons.1 hm with hm | hm
  · cases hm
    have hlt : j < 256 := by have := (List.getElem?_eq_some_iff.1 hj).1; simpa using this
    rw [List.getElem?_map, List.getElem?_range hlt] at hj
    dsimp only
    rw [h1 j hlt]; exact hj
  · rw [List.mem_singleton] at hm
    cases hm
    have hlt : j < 32 := by have := (List.getElem?_eq_some_iff.1 hj).1; simpa using this
    rw [List.getElem?_map, List.getElem?_range hlt] at hj
    simp only [Option.map_some, Option.some.injEq] at hj
    dsimp only
    by_cases he : j % 2 = 0
    · rw [if_pos he] at hj
      have := (h2 (j / 2) (by omega)).1
      rw [show 2 * (j / 2) = j by omega] at this
      rw [this, ← hj]; rfl
    · rw [if_neg he] at hj
      have := (h2 (j / 2) (by omega)).2
      rw [show 2 * (j / 2) + 1 = j by omega] at this
      rw [this, ← hj]; rfl
theorem call : ∀ qs, ArgS Tryd.prog Tryd.f3.params.toList qs → PV.bkL qs ≤ 1048576 → PCall Tryd.prog 3 qs (.lit (.bool true)) := by
  intro qs h _
  rw [Tryd.params3] at h
  obtain ⟨_, _, _, h1, rfl, _, _, _, h2, rfl, _, _, _, h3, rfl, rfl⟩ := h
  obtain ⟨x, rfl⟩ := str_of Tryd.underlying9 h1
  obtain ⟨o, rfl⟩ := int_of Tryd.underlying3 h2
  obtain ⟨m, hm, hf, hw⟩ := struct_of Tryd.underlying23 h3
  simp only [TySF] at hf
  obtain ⟨_, _, rfl, f1, _, _, rfl, f2, rfl⟩ := hf
  obtain ⟨a, rfl⟩ := int_of Tryd.underlying3 f1
  obtain ⟨b, rfl⟩ := int_of Tryd.underlying3 f2
  rw [hw, show wr Tryd.prog 9 [.lit (.string x)] = sb x.data.toList by simp [wr, isSt, Tryd.underlying9], wr_int Tryd.underlying3]
  exact law3_ok _ _ _ _
def arg0 : Array Value := #[.string ⟨#[]⟩, .int .i64 0, .agg #[.int .i64 0, .int .i64 0]]
noncomputable def w0 (os : Os) : World := (World.laidAll Tryd.prog os Rows.positionReferenceUptoRow.laid)
theorem reads (os : Os) {H : Type} (enc : TypeId × Value → H) : ∃ places, DataW.whole enc Tryd.prog ((w0 os).forCall (fun _ _ => 0) ⟨#[], arg0, []⟩).memory Tryd.f3.params.toList Rows.positionReferenceSpec.vars false arg0.toList 8 = some ([.lit (.string []), .lit (.int .i64 0), .agg [.lit (.int .i64 0), .lit (.int .i64 0)]], [], places) :=
  ⟨[], by kernel_rfl⟩
theorem laid_met (os : Os) : laidMetH Tryd.prog Rows.positionReferenceUptoRow.laid ((w0 os).forCall (fun _ _ => 0) ⟨#[], arg0, []⟩).memory := by
  rw [MakeChecks.laidMetH_plain _ _ _ (by kernel_rfl)]
  exact laidMet_laidAll _ (by kernel_rfl) (by kernel_rfl)
theorem lifted (os : Os) (started : os.Started) (H : Type) (enc : TypeId × Value → H) (F : Stop.Interp) :
    ReturnsInHanded {} Tryd.checked os 3 .any ((Rows.OpenSpec.upto Rows.positionReferenceSpec).preRow enc Tryd.prog Tryd.f3 Rows.positionReferenceUptoRow.domain false Rows.positionReferenceUptoRow.laid) (((Rows.OpenSpec.upto Rows.positionReferenceSpec).at F).post enc Tryd.prog Tryd.f3 false true false false) := by
  obtain ⟨places, hx⟩ := reads os enc
  refine returnsInHanded_of_row (C := Tryd.checked) (s := Rows.OpenSpec.upto Rows.positionReferenceSpec) own started (by kernel_rfl) Tryd.func3
    (witness_row_atRef (enc := enc) (C := Tryd.checked) false (w0 os) arg0 (World.laidAll_os _ _ _) (by kernel_rfl) (by kernel_rfl) (by kernel_rfl)
      (OpenSpec.preRow_of_cond 8 hx (by kernel_rfl) (fun k hk => by cases hk; kernel_rfl) (by kernel_rfl) (laid_met os))) ?_
  intro W base args ds gs before hval hW _ hcond _ hL _ _
  exact law_contract (S := [9, 3, 23]) laid_ok (by kernel_rfl) rfl (by kernel_rfl) Tryd.underlying4 (by kernel_rfl) (by kernel_rfl) (fun ds hd => by
    rw [Tryd.params3] at hd
    match ds, hd with
    | [d1, d2, d3], _ => rfl) call hval hW (hcond _ rfl) (tab hL)
theorem said : Rows.PositionReferenceUptoSaid :=
  OpenClaim.holds_of_cond 3 Tryd.f3 rfl rfl rfl rfl rfl rfl rfl ⟨rfl, rfl, rfl, rfl, rfl⟩ rfl rfl rfl rfl rfl (by kernel_rfl) Tryd.func3 (by kernel_rfl)
    (of_decide_eq_true (by kernel_rfl)) (by unfold Func.isWrapper; first | (rw [if_pos (by decide +kernel)]; kernel_rfl) | (rw [if_neg (by decide +kernel)]; exact ⟨rfl, rfl⟩))
    (fun os started H enc _ F => by rw [OpenClaim.pre_eq_preRow]; exact lifted os started H enc F)
theorem plain (f : FuncId) (fn : Func) (hf : Tryd.pinned.checked.prog.funcNamed "glossator/glossatorlaw1.PositionReference" = some f) (hfn : Tryd.pinned.checked.prog.funcs[f]? = some fn) :
    false = Tryd.pinned.checked.prog.looks [] ∧ ∀ (j : Nat) t, fn.params[j]? = some t → Tryd.pinned.checked.prog.wantsStandIn t = false := by
  obtain rfl : f = 3 := Option.some.inj ((show Tryd.prog.funcNamed "glossator/glossatorlaw1.PositionReference" = some 3 by kernel_rfl).symm.trans hf) |>.symm
  obtain rfl : fn = Tryd.f3 := (Option.some.inj (Tryd.func3.symm.trans hfn)).symm
  refine ⟨by kernel_rfl, fun j t ht => ?_⟩
  rw [Tryd.params3] at ht
  have hm : t ∈ [9, 3, 23] := by simpa using Array.mem_of_getElem? ht
  have hall : ([9, 3, 23].all fun u => !Tryd.prog.wantsStandIn u) = true := by kernel_rfl
  exact (show Tryd.prog.wantsStandIn t = false by simpa using List.all_eq_true.1 hall t hm)
theorem proved : Rows.PositionReferenceUptoCardSaid :=
  Claim7.holds_tied_plain_at .later [] _ _ _ _ said (fun _ h => by cases h) (by kernel_rfl) (fun _ h => by cases h) positionReferenceUpto_row_tie rfl ⟨rfl, rfl⟩ (by kernel_rfl) rfl plain (by kernel_rfl)
end Go.Proofs.YtgphapkpoamcgaaDoor.positionReference
