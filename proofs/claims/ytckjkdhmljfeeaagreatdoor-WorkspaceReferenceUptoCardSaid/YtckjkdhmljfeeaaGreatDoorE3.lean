/- E3: joined from W38. -/
import Derived.Test.YtckjkdhmljfeeaaGreatDoorI5
import Derived.Test.YtckjkdhmljfeeaaGreatDoorC1
import Derived.Test.YtckjkdhmljfeeaaGreatDoorCards
import Derived.Test.YtckjkdhmljfeeaaGreatDoorTie
import Derived.ProofKit
import Derived.OpenShut
import Derived.Deep.DeepHandedRow
import Derived.Deep.DeepWitnessRowRef
import Derived.Lib.LaidTab
import Derived.Lib.LaidU8
import Derived.LaidMore
/- WorkspaceReference: for every list of modules and every name the law returns true. Condition: what comes in is of bulk at most 1048576; the listed variables of the library read as their text lays them (tied). -/
set_option maxRecDepth 100000
namespace Go.Proofs.YtckjkdhmljfeeaaGreatDoor.workspaceReference
open Go Go.ChangeShapes Go.WideShapes Go.ChangeAt Go.RowKit Go.Ab
theorem gTab : Tryz.prog.globalNamed "strings.asciiSpace" = some 0 := by kernel_rfl
theorem gTabType : (Tryz.prog.globals[0]?).map (·.type) = some 160 := by kernel_rfl
def zs : List Int := (List.range 256).map fun c => if c = 32 ∨ (9 ≤ c ∧ c ≤ 13) then 1 else 0
theorem datum : (Rows.laid_strings_asciiSpace : DataW Unit) = Go.Lib.tabData .u8 zs := by kernel_rfl
theorem tab {W : World} (h : laidMetH Tryz.prog Rows.workspaceReferenceUptoRow.laid W) : Laid fun a => W.cell? a := by
  rw [MakeChecks.laidMetH_plain _ _ _ (by kernel_rfl)] at h
  obtain ⟨g1, t1, cs1, f1, p1, hg1, ht1, hv1, hd1⟩ := Go.Lib.laidMet.reads h (n := "strings.asciiSpace") (d := Rows.laid_strings_asciiSpace) (by
    show _ ∈ [_, _, _, _, _, _, _]
    simp)
  obtain rfl := Option.some.inj (gTab.symm.trans hg1)
  obtain rfl := Option.some.inj (gTabType.symm.trans ht1)
  rw [datum] at hd1
  have hcs := Go.Lib.cells_of_tab Tryz.underlying160 Tryz.underlying5 (by kernel_rfl) (by kernel_rfl) hd1
  intro b cs hm j u hj
  unfold laidL at hm
  rw [List.mem_singleton] at hm
  cases hm
  have hc := World.var?_cell hg1 hv1 j
  dsimp only
  rw [hc, ← Array.getElem?_toList, hcs, zs, List.map_map]
  exact hj
theorem md_of : ∀ (n : Nat) (qs : List PV), TyS Tryz.prog n 69 qs → ∃ t : Md, wr Tryz.prog 69 qs = t.enc := by
  intro n qs h
  obtain ⟨m, hm, hf, hw⟩ := struct_of Tryz.underlying69 h
  rw [hw]
  simp only [TySF] at hf
  obtain ⟨_, _, rfl, h1, _, _, rfl, h2, rfl⟩ := hf
  obtain ⟨a, rfl⟩ := str_of Tryz.underlying9 h1
  obtain ⟨b, rfl⟩ := str_of Tryz.underlying9 h2
  exact ⟨⟨a.data.toList, b.data.toList⟩, rfl⟩
theorem bk_md : ∀ {ms : List Md} {m : Md}, m ∈ ms → m.n.length ≤ PV.bkL (encM ms)
  | [], m, h => by cases h
  | a :: ms, m, h => by
    simp only [encM, List.map_cons, PV.bkL]
    rcases List.mem_cons.1 h with rfl | h
    · simp only [Md.enc, PV.bk, PV.bkL, sb_size]; omega
    · have := bk_md h
      simp only [encM] at this; omega
theorem call : ∀ qs, ArgS Tryz.prog Tryz.f6.params.toList qs → PV.bkL qs ≤ 1048576 → PCall Tryz.prog 6 qs (.lit (.bool true)) := by
  intro qs h hb
  rw [Tryz.params6] at h
  obtain ⟨n1, c1, q1, h1, rfl, n2, c2, q2, h2, rfl, rfl⟩ := h
  obtain ⟨ms, rfl⟩ := slice_of (f := Md.enc) Tryz.underlying40 h1 fun j hj ds hd => md_of j ds hd
  obtain ⟨x, rfl⟩ := str_of Tryz.underlying9 h2
  rw [show Tryz.prog.cellsOf 69 = 2 by kernel_rfl] at hb ⊢
  rw [show wr Tryz.prog 9 [.lit (.string x)] = sb x.data.toList by simp [wr, isSt, Tryz.underlying9], show wr Tryz.prog 40 [.list 2 (ms.map Md.enc)] = .list 2 (encM ms) by simp [wr, isSt, Tryz.underlying40, encM]] at hb ⊢
  refine law6_ok _ _ fun m hm => ?_
  have := bk_md hm
  simp only [PV.bkL, PV.bk] at hb
  omega
def arg0 : Array Value := #[.slice none 0 0, .string ⟨#[]⟩]
noncomputable def w0 (os : Os) : World := World.doorLaid Tryz.prog 86 os
theorem reads (os : Os) {H : Type} (enc : TypeId × Value → H) : ∃ places, DataW.whole enc Tryz.prog ((w0 os).forCall (fun _ _ => 0) ⟨#[], arg0, []⟩).memory Tryz.f6.params.toList Rows.workspaceReferenceSpec.vars false arg0.toList 8 = some ([.nil, .lit (.string [])], [], places) :=
  ⟨[], by kernel_rfl⟩
theorem laid_met (os : Os) : laidMetH Tryz.prog Rows.workspaceReferenceUptoRow.laid ((w0 os).forCall (fun _ _ => 0) ⟨#[], arg0, []⟩).memory := by
  rw [MakeChecks.laidMetH_plain _ _ _ (by kernel_rfl)]
  exact laidMet_of_run' 257 (by kernel_rfl) (by kernel_rfl)
theorem lifted (os : Os) (started : os.Started) (H : Type) (enc : TypeId × Value → H) (F : Stop.Interp) :
    ReturnsInHanded {} Tryz.checked os 6 .any ((Rows.OpenSpec.upto Rows.workspaceReferenceSpec).preRow enc Tryz.prog Tryz.f6 Rows.workspaceReferenceUptoRow.domain false Rows.workspaceReferenceUptoRow.laid) (((Rows.OpenSpec.upto Rows.workspaceReferenceSpec).at F).post enc Tryz.prog Tryz.f6 false true false false) := by
  obtain ⟨places, hx⟩ := reads os enc
  refine returnsInHanded_of_row (C := Tryz.checked) (s := Rows.OpenSpec.upto Rows.workspaceReferenceSpec) own_ok started (by kernel_rfl) Tryz.func6
    (witness_row_atRef (enc := enc) (C := Tryz.checked) false (w0 os) arg0 rfl (by kernel_rfl) (by kernel_rfl) (by kernel_rfl)
      (OpenSpec.preRow_of_cond 8 hx (by kernel_rfl) (fun k hk => by cases hk; kernel_rfl) (by kernel_rfl) (laid_met os))) ?_
  intro W base args ds gs before hval hW _ hcond _ hL _ _
  exact law_contract (S := [40, 9, 69]) laid_ok (by kernel_rfl) rfl (by kernel_rfl) Tryz.underlying4 (by kernel_rfl) (by kernel_rfl) (fun ds hd => by
    rw [Tryz.params6] at hd
    match ds, hd with
    | [d1, d2], _ => rfl) call hval hW (hcond _ rfl) (tab hL)
theorem hI : (Rows.workspaceReferenceUptoRow.inPlace == Tryz.prog.inPlace 6) = true := by unfold Program.inPlace; rw [closure_eq]; kernel_rfl
theorem hU : (Rows.workspaceReferenceUptoRow.unfollowed == Tryz.prog.unfollowed 6) = true := by unfold Program.unfollowed; rw [closure_eq]; kernel_rfl
theorem hR : (Rows.workspaceReferenceUptoRow.recurses == Tryz.prog.recurses 6) = true := by rw [rec_of 115 115 (by kernel_rfl) (by kernel_rfl) (by kernel_rfl)]; rfl
theorem hN : (Rows.workspaceReferenceUptoRow.named == Tryz.prog.varsNamed 6) = true := by unfold Program.varsNamed; simp only [closure_eq]; kernel_rfl
theorem closed : joinedFacts Tryz.prog 6 Tryz.f6 (Rows.OpenSpec.upto Rows.workspaceReferenceSpec).bare Rows.workspaceReferenceUptoRow = true := by
  unfold joinedFacts
  exact band (band (band (band (band (band (band (band (band (band (band (band (band (band (band (band (band (band (band (band (band (band (band (band (band (band (band (band (band (band (band (by kernel_rfl) laid_ok) maps_ok) (by kernel_rfl)) (by kernel_rfl)) (by kernel_rfl)) stops_ok) (by kernel_rfl)) knobs_ok) hI) hU) hR) hN) (by kernel_rfl)) (by kernel_rfl)) (by kernel_rfl)) (by kernel_rfl)) (by kernel_rfl)) (by kernel_rfl)) (by kernel_rfl)) (by kernel_rfl)) (by kernel_rfl)) plain_ok) (by kernel_rfl)) heard_ok) enter_ok) (by rw [lifts_ok]; rfl)) (by rw [make_ok]; rfl)) (by kernel_rfl)) (by kernel_rfl)) (by kernel_rfl)) (by kernel_rfl)
theorem said : Rows.WorkspaceReferenceUptoSaid :=
  OpenClaim.holds_of_cond 6 Tryz.f6 rfl rfl rfl rfl rfl rfl rfl ⟨rfl, rfl, rfl, rfl, rfl⟩ rfl rfl rfl rfl rfl (by kernel_rfl) Tryz.func6 closed
    (of_decide_eq_true (by kernel_rfl)) (by unfold Func.isWrapper; first | (rw [if_pos (by decide +kernel)]; kernel_rfl) | (rw [if_neg (by decide +kernel)]; exact ⟨rfl, rfl⟩))
    (fun os started H enc _ F => by rw [OpenClaim.pre_eq_preRow]; exact lifted os started H enc F)
theorem plain (f : FuncId) (fn : Func) (hf : Tryz.pinned.checked.prog.funcNamed "glossator/glossatorlaw1.WorkspaceReference" = some f) (hfn : Tryz.pinned.checked.prog.funcs[f]? = some fn) :
    true = Tryz.pinned.checked.prog.looks [] ∧ ∀ (j : Nat) t, fn.params[j]? = some t → Tryz.pinned.checked.prog.wantsStandIn t = false := by
  obtain rfl : f = 6 := Option.some.inj ((show Tryz.prog.funcNamed "glossator/glossatorlaw1.WorkspaceReference" = some 6 by kernel_rfl).symm.trans hf) |>.symm
  obtain rfl : fn = Tryz.f6 := (Option.some.inj (Tryz.func6.symm.trans hfn)).symm
  refine ⟨by kernel_rfl, fun j t ht => ?_⟩
  rw [Tryz.params6] at ht
  have hm : t ∈ [40, 9] := by simpa using Array.mem_of_getElem? ht
  have hall : ([40, 9].all fun u => !Tryz.prog.wantsStandIn u) = true := by kernel_rfl
  exact (show Tryz.prog.wantsStandIn t = false by simpa using List.all_eq_true.1 hall t hm)
theorem proved : Rows.WorkspaceReferenceUptoCardSaid :=
  Claim7.holds_tied_plain_at .later [] _ _ _ _ said (fun _ h => by cases h) (by kernel_rfl) (fun _ h => by cases h) workspaceReferenceUpto_row_tie rfl ⟨rfl, rfl⟩ (by kernel_rfl) rfl plain (by kernel_rfl)
end Go.Proofs.YtckjkdhmljfeeaaGreatDoor.workspaceReference
