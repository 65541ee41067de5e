/- E2: joined from W36. -/
import Derived.Test.YtckjkdhmljfeeaaGreatDoorH5
import Derived.Test.YtckjkdhmljfeeaaGreatDoorC1
import Derived.Test.YtckjkdhmljfeeaaGreatDoorC2
import Derived.Test.YtckjkdhmljfeeaaGreatDoorCards
import Derived.Test.YtckjkdhmljfeeaaGreatDoorTie
import Derived.ProofKit
import Derived.OpenShut
import Derived.Deep.DeepHandedRow
import Derived.Deep.DeepWitnessRowRef
import Derived.Lib.LaidTab
import Derived.Lib.LaidU8
import Derived.LaidMore
/- DivergingBlockStaysDiverging: for every node the law returns true. Condition: what comes in is of bulk at most 1048576; the listed variables of the library read as their text lays them (tied). -/
set_option maxRecDepth 100000
namespace Go.Proofs.YtckjkdhmljfeeaaGreatDoor.divergingBlockStaysDiverging
open Go Go.ChangeShapes Go.WideShapes Go.ChangeAt Go.RowKit Go.Ab
theorem gTab : Tryz.prog.globalNamed "strings.asciiSpace" = some 0 := by kernel_rfl
theorem gTabType : (Tryz.prog.globals[0]?).map (·.type) = some 160 := by kernel_rfl
def zs : List Int := (List.range 256).map fun c => if c = 32 ∨ (9 ≤ c ∧ c ≤ 13) then 1 else 0
theorem datum : (Rows.laid_strings_asciiSpace : DataW Unit) = Go.Lib.tabData .u8 zs := by kernel_rfl
theorem tab {W : World} (h : laidMetH Tryz.prog Rows.divergingBlockStaysDivergingUptoRow.laid W) : Laid fun a => W.cell? a := by
  rw [MakeChecks.laidMetH_plain _ _ _ (by kernel_rfl)] at h
  obtain ⟨g1, t1, cs1, f1, p1, hg1, ht1, hv1, hd1⟩ := Go.Lib.laidMet.reads h (n := "strings.asciiSpace") (d := Rows.laid_strings_asciiSpace) (by
    show _ ∈ [_, _, _, _, _, _, _]
    simp)
  obtain rfl := Option.some.inj (gTab.symm.trans hg1)
  obtain rfl := Option.some.inj (gTabType.symm.trans ht1)
  rw [datum] at hd1
  have hcs := Go.Lib.cells_of_tab Tryz.underlying160 Tryz.underlying5 (by kernel_rfl) (by kernel_rfl) hd1
  intro b cs hm j u hj
  unfold laidL at hm
  rw [List.mem_singleton] at hm
  cases hm
  have hc := World.var?_cell hg1 hv1 j
  dsimp only
  rw [hc, ← Array.getElem?_toList, hcs, zs, List.map_map]
  exact hj
theorem call : ∀ qs, ArgS Tryz.prog Tryz.f4.params.toList qs → PV.bkL qs ≤ 1048576 → PCall Tryz.prog 4 qs (.lit (.bool true)) := by
  intro qs h hb
  rw [Tryz.params4] at h
  obtain ⟨n1, c1, q1, h1, rfl, rfl⟩ := h
  obtain ⟨x, e⟩ := nd_of _ _ h1
  rw [e]
  exact law4_ok x
def arg0 : Array Value := #[.agg #[.int .i64 0, .int .i64 0, .string ⟨#[]⟩, .int .i64 0, .int .i64 0, .int .i64 0, .slice none 0 0]]
noncomputable def w0 (os : Os) : World := World.doorLaid Tryz.prog 86 os
theorem reads (os : Os) {H : Type} (enc : TypeId × Value → H) : ∃ places, DataW.whole enc Tryz.prog ((w0 os).forCall (fun _ _ => 0) ⟨#[], arg0, []⟩).memory Tryz.f4.params.toList Rows.divergingBlockStaysDivergingSpec.vars false arg0.toList 8 = some ([.agg [.lit (.int .i64 0), .lit (.int .i64 0), .lit (.string []), .lit (.int .i64 0), .lit (.int .i64 0), .lit (.int .i64 0), .nil]], [], places) :=
  ⟨[], by kernel_rfl⟩
theorem laid_met (os : Os) : laidMetH Tryz.prog Rows.divergingBlockStaysDivergingUptoRow.laid ((w0 os).forCall (fun _ _ => 0) ⟨#[], arg0, []⟩).memory := by
  rw [MakeChecks.laidMetH_plain _ _ _ (by kernel_rfl)]
  exact laidMet_of_run' 257 (by kernel_rfl) (by kernel_rfl)
theorem lifted (os : Os) (started : os.Started) (H : Type) (enc : TypeId × Value → H) (F : Stop.Interp) :
    ReturnsInHanded {} Tryz.checked os 4 .any ((Rows.OpenSpec.upto Rows.divergingBlockStaysDivergingSpec).preRow enc Tryz.prog Tryz.f4 Rows.divergingBlockStaysDivergingUptoRow.domain false Rows.divergingBlockStaysDivergingUptoRow.laid) (((Rows.OpenSpec.upto Rows.divergingBlockStaysDivergingSpec).at F).post enc Tryz.prog Tryz.f4 false true false false) := by
  obtain ⟨places, hx⟩ := reads os enc
  refine returnsInHanded_of_row (C := Tryz.checked) (s := Rows.OpenSpec.upto Rows.divergingBlockStaysDivergingSpec) own_ok started (by kernel_rfl) Tryz.func4
    (witness_row_atRef (enc := enc) (C := Tryz.checked) false (w0 os) arg0 rfl (by kernel_rfl) (by kernel_rfl) (by kernel_rfl)
      (OpenSpec.preRow_of_cond 8 hx (by kernel_rfl) (fun k hk => by cases hk; kernel_rfl) (by kernel_rfl) (laid_met os))) ?_
  intro W base args ds gs before hval hW _ hcond _ hL _ _
  exact law_contract (S := [38, 3, 9, 36]) laid_ok (by kernel_rfl) rfl (by kernel_rfl) Tryz.underlying4 (by kernel_rfl) (by kernel_rfl) (fun ds hd => by
    rw [Tryz.params4] at hd
    match ds, hd with
    | [d1], _ => rfl) call hval hW (hcond _ rfl) (tab hL)
theorem hI : (Rows.divergingBlockStaysDivergingUptoRow.inPlace == Tryz.prog.inPlace 4) = true := by unfold Program.inPlace; rw [closure_eq]; kernel_rfl
theorem hU : (Rows.divergingBlockStaysDivergingUptoRow.unfollowed == Tryz.prog.unfollowed 4) = true := by unfold Program.unfollowed; rw [closure_eq]; kernel_rfl
theorem hR : (Rows.divergingBlockStaysDivergingUptoRow.recurses == Tryz.prog.recurses 4) = true := by rw [rec_of 14 14 (by kernel_rfl) (by kernel_rfl) (by kernel_rfl)]; rfl
theorem hN : (Rows.divergingBlockStaysDivergingUptoRow.named == Tryz.prog.varsNamed 4) = true := by unfold Program.varsNamed; simp only [closure_eq]; kernel_rfl
theorem closed : joinedFacts Tryz.prog 4 Tryz.f4 (Rows.OpenSpec.upto Rows.divergingBlockStaysDivergingSpec).bare Rows.divergingBlockStaysDivergingUptoRow = true := by
  unfold joinedFacts
  exact band (band (band (band (band (band (band (band (band (band (band (band (band (band (band (band (band (band (band (band (band (band (band (band (band (band (band (band (band (band (band (by kernel_rfl) laid_ok) maps_ok) (by kernel_rfl)) (by kernel_rfl)) (by kernel_rfl)) stops_ok) (by kernel_rfl)) knobs_ok) hI) hU) hR) hN) (by kernel_rfl)) (by kernel_rfl)) (by kernel_rfl)) (by kernel_rfl)) (by kernel_rfl)) (by kernel_rfl)) (by kernel_rfl)) (by kernel_rfl)) (by kernel_rfl)) plain_ok) (by kernel_rfl)) heard_ok) enter_ok) (by rw [lifts_ok]; rfl)) (by rw [make_ok]; rfl)) (by kernel_rfl)) (by kernel_rfl)) (by kernel_rfl)) (by kernel_rfl)
theorem said : Rows.DivergingBlockStaysDivergingUptoSaid :=
  OpenClaim.holds_of_cond 4 Tryz.f4 rfl rfl rfl rfl rfl rfl rfl ⟨rfl, rfl, rfl, rfl, rfl⟩ rfl rfl rfl rfl rfl (by kernel_rfl) Tryz.func4 closed
    (of_decide_eq_true (by kernel_rfl)) (by unfold Func.isWrapper; first | (rw [if_pos (by decide +kernel)]; kernel_rfl) | (rw [if_neg (by decide +kernel)]; exact ⟨rfl, rfl⟩))
    (fun os started H enc _ F => by rw [OpenClaim.pre_eq_preRow]; exact lifted os started H enc F)
theorem plain (f : FuncId) (fn : Func) (hf : Tryz.pinned.checked.prog.funcNamed "glossator/glossatorkeep2.DivergingBlockStaysDiverging" = some f) (hfn : Tryz.pinned.checked.prog.funcs[f]? = some fn) :
    true = Tryz.pinned.checked.prog.looks [] ∧ ∀ (j : Nat) t, fn.params[j]? = some t → Tryz.pinned.checked.prog.wantsStandIn t = false := by
  obtain rfl : f = 4 := Option.some.inj ((show Tryz.prog.funcNamed "glossator/glossatorkeep2.DivergingBlockStaysDiverging" = some 4 by kernel_rfl).symm.trans hf) |>.symm
  obtain rfl : fn = Tryz.f4 := (Option.some.inj (Tryz.func4.symm.trans hfn)).symm
  refine ⟨by kernel_rfl, fun j t ht => ?_⟩
  rw [Tryz.params4] at ht
  obtain rfl : t = 38 := by simpa using Array.mem_of_getElem? ht
  exact (show Tryz.prog.wantsStandIn 38 = false by kernel_rfl)
theorem proved : Rows.DivergingBlockStaysDivergingUptoCardSaid :=
  Claim7.holds_tied_plain_at .later [] _ _ _ _ said (fun _ h => by cases h) (by kernel_rfl) (fun _ h => by cases h) divergingBlockStaysDivergingUpto_row_tie rfl ⟨rfl, rfl⟩ (by kernel_rfl) rfl plain (by kernel_rfl)
end Go.Proofs.YtckjkdhmljfeeaaGreatDoor.divergingBlockStaysDiverging
