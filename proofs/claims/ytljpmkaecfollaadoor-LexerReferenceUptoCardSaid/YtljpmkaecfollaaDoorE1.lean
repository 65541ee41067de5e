/- E1: joined from W27. -/
import Derived.Test.YtljpmkaecfollaaDoorA9
import Derived.Test.YtljpmkaecfollaaDoorC2
import Derived.Test.YtljpmkaecfollaaDoorCards
import Derived.Test.YtljpmkaecfollaaDoorTie
import Derived.ProofKit
import Derived.OpenShut
import Derived.Deep.DeepHandedRow
import Derived.Deep.DeepWitnessRowRef
import Derived.Lib.LaidTab
import Derived.LaidMore
/- LexerReference: for every source the law returns true. Condition: what comes in is of bulk at most 1048576; the two listed variables of the library read as their text lays them (tied). -/
set_option maxRecDepth 100000
namespace Go.Proofs.YtljpmkaecfollaaDoor.lexerReference
open Go Go.ChangeShapes Go.WideShapes Go.ChangeAt Go.RowKit Go.Ab
theorem own : ownKnob Tryd.prog.godebug = none := by kernel_rfl
theorem laid_ok : laidOutB Tryd.prog = true := by kernel_rfl
theorem gTab : Tryd.prog.globalNamed "strings.asciiSpace" = some 0 := by kernel_rfl
theorem gTabType : (Tryd.prog.globals[0]?).map (·.type) = some 47 := by kernel_rfl
def zs : List Int := (List.range 256).map fun c => if c = 32 ∨ (9 ≤ c ∧ c ≤ 13) then 1 else 0
theorem datum : (Rows.laid_strings_asciiSpace : DataW Unit) = Go.Lib.tabData .u8 zs := by kernel_rfl
theorem tab {W : World} (h : laidMetH Tryd.prog Rows.lexerReferenceUptoRow.laid W) : Laid fun a => W.cell? a := by
  rw [MakeChecks.laidMetH_plain _ _ _ (by kernel_rfl)] at h
  obtain ⟨ps, ⟨g0, t0, cs0, f0, p0, q0, hg0, ht0, hv0, hd0, ⟨g1, t1, cs1, f1, p1, q1, hg1, ht1, hv1, hd1, _, _⟩, _⟩, _, _⟩ := h
  obtain rfl := Option.some.inj (gTab.symm.trans hg1)
  obtain rfl := Option.some.inj (gTabType.symm.trans ht1)
  rw [datum] at hd1
  have hcs := Go.Lib.cells_of_tab Tryd.underlying47 Tryd.underlying5 (by kernel_rfl) (by kernel_rfl) hd1
  intro b cs hm j u hj
  unfold laidL at hm
  rw [List.mem_singleton] at hm
  cases hm
  have hc := World.var?_cell hg1 hv1 j
  dsimp only
  rw [hc, ← Array.getElem?_toList, hcs, zs, List.map_map]
  exact hj
theorem call : ∀ qs, ArgS Tryd.prog Tryd.f3.params.toList qs → PV.bkL qs ≤ 1048576 → PCall Tryd.prog 3 qs (.lit (.bool true)) := by
  intro qs h hb
  rw [Tryd.params3] at h
  obtain ⟨n1, c1, q1, h1, rfl, rfl⟩ := h
  obtain ⟨x, rfl⟩ := str_of Tryd.underlying9 h1
  rw [show wr Tryd.prog 9 [.lit (.string x)] = sb x.data.toList by simp [wr, isSt, Tryd.underlying9]] at hb ⊢
  refine law3_ok _ ?_
  simp only [PV.bkL, PV.bk, sb_size] at hb
  omega
theorem reads (os : Os) {H : Type} (enc : TypeId × Value → H) : ∃ places, DataW.whole enc Tryd.prog ((World.doorLaid Tryd.prog 33 os).forCall (fun _ _ => 0) ⟨#[], #[.string ⟨#[]⟩], []⟩).memory Tryd.f3.params.toList Rows.lexerReferenceSpec.vars false #[Value.string ⟨#[]⟩].toList 8 = some ([.lit (.string [])], [], places) :=
  ⟨[], by kernel_rfl⟩
theorem laid_met (os : Os) : laidMetH Tryd.prog Rows.lexerReferenceUptoRow.laid ((World.doorLaid Tryd.prog 33 os).forCall (fun _ _ => 0) ⟨#[], #[.string ⟨#[]⟩], []⟩).memory := by
  rw [MakeChecks.laidMetH_plain _ _ _ (by kernel_rfl)]
  exact laidMet_of_run' 257 (by kernel_rfl) (by kernel_rfl)
theorem lifted (os : Os) (started : os.Started) (H : Type) (enc : TypeId × Value → H) (F : Stop.Interp) :
    ReturnsInHanded {} Tryd.checked os 3 .any ((Rows.OpenSpec.upto Rows.lexerReferenceSpec).preRow enc Tryd.prog Tryd.f3 Rows.lexerReferenceUptoRow.domain false Rows.lexerReferenceUptoRow.laid) (((Rows.OpenSpec.upto Rows.lexerReferenceSpec).at F).post enc Tryd.prog Tryd.f3 false true false false) := by
  obtain ⟨places, hx⟩ := reads os enc
  refine returnsInHanded_of_row (C := Tryd.checked) (s := Rows.OpenSpec.upto Rows.lexerReferenceSpec) own started (by kernel_rfl) Tryd.func3
    (witness_row_atRef (enc := enc) (C := Tryd.checked) false (World.doorLaid Tryd.prog 33 os) #[.string ⟨#[]⟩] rfl (by kernel_rfl) (by kernel_rfl) (by kernel_rfl)
      (OpenSpec.preRow_of_cond 8 hx (by kernel_rfl) (fun k hk => by cases hk; kernel_rfl) (by kernel_rfl) (laid_met os))) ?_
  intro W base args ds gs before hval hW _ hcond _ hL _ _
  exact law_contract (S := [9]) laid_ok (by kernel_rfl) rfl (by kernel_rfl) Tryd.underlying4 (by kernel_rfl) (by kernel_rfl) (fun ds hd => by
    rw [Tryd.params3] at hd
    match ds, hd with
    | [d1], _ => rfl) call hval hW (hcond _ rfl) (tab hL)
theorem said : Rows.LexerReferenceUptoSaid :=
  OpenClaim.holds_of_cond 3 Tryd.f3 rfl rfl rfl rfl rfl rfl rfl ⟨rfl, rfl, rfl, rfl, rfl⟩ rfl rfl rfl rfl rfl (by kernel_rfl) Tryd.func3 (by kernel_rfl)
    (of_decide_eq_true (by kernel_rfl)) (by unfold Func.isWrapper; first | (rw [if_pos (by decide +kernel)]; kernel_rfl) | (rw [if_neg (by decide +kernel)]; exact ⟨rfl, rfl⟩))
    (fun os started H enc _ F => by rw [OpenClaim.pre_eq_preRow]; exact lifted os started H enc F)
theorem plain (f : FuncId) (fn : Func) (hf : Tryd.pinned.checked.prog.funcNamed "glossator/glossatorlaw1.LexerReference" = some f) (hfn : Tryd.pinned.checked.prog.funcs[f]? = some fn) :
    false = Tryd.pinned.checked.prog.looks [] ∧ ∀ (j : Nat) t, fn.params[j]? = some t → Tryd.pinned.checked.prog.wantsStandIn t = false := by
  obtain rfl : f = 3 := Option.some.inj ((show Tryd.prog.funcNamed "glossator/glossatorlaw1.LexerReference" = some 3 by kernel_rfl).symm.trans hf) |>.symm
  obtain rfl : fn = Tryd.f3 := (Option.some.inj (Tryd.func3.symm.trans hfn)).symm
  refine ⟨by kernel_rfl, fun j t ht => ?_⟩
  rw [Tryd.params3] at ht
  obtain rfl : t = 9 := by simpa using Array.mem_of_getElem? ht
  exact (show Tryd.prog.wantsStandIn 9 = false by kernel_rfl)
theorem proved : Rows.LexerReferenceUptoCardSaid :=
  Claim7.holds_tied_plain_at .later [] _ _ _ _ said (fun _ h => by cases h) (by kernel_rfl) (fun _ h => by cases h) lexerReferenceUpto_row_tie rfl ⟨rfl, rfl⟩ (by kernel_rfl) rfl plain (by kernel_rfl)
end Go.Proofs.YtljpmkaecfollaaDoor.lexerReference
