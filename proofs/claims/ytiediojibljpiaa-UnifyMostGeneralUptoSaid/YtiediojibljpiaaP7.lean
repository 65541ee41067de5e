/- P7: joined from ZP7. -/
import Derived.Test.YtiediojibljpiaaFnU
import Derived.Test.YtiediojibljpiaaP6
import Derived.Test.YtiediojibljpiaaA3
/- The laws of unification, without a program in sight. -/
set_option maxRecDepth 10000
set_option linter.unusedSimpArgs false
set_option linter.unusedVariables false
namespace Go.Proofs.Ytiediojibljpiaa
open Go Go.Ab
theorem self_hom (L : SB) : Hom (sg L) := sg_app L
theorem self_resp {L : SB} (hw : WF L) : Resp (sg L) L := fun v t h => (sg_bound hw (.mk 1 v []) t rfl h).1
theorem subT_hom (s : List Bd) : Hom (subT s) := subT_app s
theorem findB_of_mem : ∀ {bs : List Bd} {b : Bd}, bs.Pairwise (fun a b => a.v < b.v) → b ∈ bs → findB bs b.v = some b.t
  | [], b, _, h => by cases h
  | c :: bs, b, hs, h => by
    rw [List.pairwise_cons] at hs
    simp only [findB]
    rcases List.mem_cons.1 h with rfl | h
    · simp
    · have := hs.1 b h
      have hne : (c.v == b.v) = false := by simp; omega
      rw [hne, if_neg (by decide)]
      exact findB_of_mem hs.2 h
theorem findB_ans {L : SB} (hw : WF L) (v : Int) : findB (ansB L) v = (lk L v).map (sg L) := by
  cases hl : lk L v with
  | some t => exact findB_of_mem (b := ⟨v, sg L t⟩) (ansB_sorted hw) (ansB_mem.2 ⟨(v, t), lk_mem hl, rfl⟩)
  | none =>
    refine findB_none fun b hb => ?_
    obtain ⟨x, hx, rfl⟩ := ansB_mem.1 hb
    simpa using lk_none hl x hx
mutual
theorem subT_sg {L : SB} (hw : WF L) : ∀ t : Ty, wfT t = true → subT (ansB L) t = sg L t
  | .mk k id ss, h => by
    by_cases hk : k = 1
    · obtain ⟨e, h0⟩ := wfT_var h (by simpa [Ty.kd] using hk)
      simp only [Ty.id] at e h0
      rw [e]
      have hg : good (.mk 1 id []) := ⟨by simp [wfT, nwf, wfTL, h0], by simp [nds, ndsL]⟩
      cases hl : lk L id with
      | some t =>
        rw [(sg_bound hw (.mk 1 id []) t rfl hl).1]
        have hf := findB_ans hw id
        rw [hl] at hf
        simp [subT, mapT, subG, Ty.kd, Ty.id, hf]
      | none =>
        rw [sg_free hw _ hg rfl hl]
        have hf := findB_ans hw id
        rw [hl] at hf
        simp [subT, mapT, subG, Ty.kd, Ty.id, hf, mapTL]
    · rw [subT_app _ _ (by simpa [Ty.kd] using hk), sg_app _ _ (by simpa [Ty.kd] using hk)]
      simp only [Ty.kd, Ty.id, Ty.args]
      congr 1
      exact subT_sgL hw ss (wfT_mem h)
theorem subT_sgL {L : SB} (hw : WF L) : ∀ ts : List Ty, (∀ a ∈ ts, wfT a = true) → ts.map (subT (ansB L)) = ts.map (sg L)
  | [], _ => rfl
  | t :: ts, h => by
    simp only [List.map_cons]
    rw [subT_sg hw t (h t (by simp)), subT_sgL hw ts fun a ha => h a (by simp [ha])]
end
/-- a solution of small types -/
def BV (θ : Ty → Ty) : Prop := ∀ v, 0 ≤ v → limT (θ (.mk 1 v [])) = true
theorem lim_le {t : Ty} (h : limT t = true) : nds t ≤ 100 ∧ dp t ≤ 12 := by
  unfold limT at h
  by_cases h1 : nds t ≤ 100
  · rw [if_pos (by simpa using h1)] at h; exact ⟨h1, of_decide_eq_true h⟩
  · rw [if_neg (by simpa using h1)] at h; cases h
theorem lim_of {t : Ty} (h1 : nds t ≤ 100) (h2 : dp t ≤ 12) : limT t = true := by
  unfold limT; rw [if_pos (by simpa using h1)]; simpa using h2
mutual
theorem nds_hom {θ : Ty → Ty} (hθ : Hom θ) (hb : BV θ) : ∀ t : Ty, wfT t = true → nds (θ t) ≤ nds t * 100
  | .mk k id ss, h => by
    by_cases hk : k = 1
    · obtain ⟨e, h0⟩ := wfT_var h (by simpa [Ty.kd] using hk)
      simp only [Ty.id] at e h0
      rw [e]
      have := (lim_le (hb id h0)).1
      simp only [nds, ndsL]; omega
    · rw [hθ _ (by simpa [Ty.kd] using hk)]
      have := nds_homL hθ hb ss (wfT_mem h)
      simp only [nds, Ty.args]; omega
theorem nds_homL {θ : Ty → Ty} (hθ : Hom θ) (hb : BV θ) : ∀ ts : List Ty, (∀ a ∈ ts, wfT a = true) → ndsL (ts.map θ) ≤ ndsL ts * 100
  | [], _ => Nat.le_refl _
  | t :: ts, h => by
    have h1 := nds_hom hθ hb t (h t (by simp))
    have h2 := nds_homL hθ hb ts fun a ha => h a (by simp [ha])
    simp only [List.map_cons, ndsL]; omega
end
theorem dpL_ge : ∀ (ts : List Ty) (d : Int), d ≤ dpL ts d
  | [], d => Int.le_refl _
  | t :: ts, d => by
    have := dpL_ge ts (if dp t > d then dp t else d)
    simp only [dpL]
    split at this <;> rename_i h <;> simp only [h, if_true, if_false] <;> omega
theorem dpL_mono : ∀ (ts : List Ty) (d e : Int), d ≤ e → dpL ts d ≤ dpL ts e
  | [], d, e, h => h
  | t :: ts, d, e, h => by
    simp only [dpL]
    refine dpL_mono ts _ _ ?_
    split <;> split <;> omega
mutual
theorem hom_ge {θ : Ty → Ty} (hθ : Hom θ) : ∀ t : Ty, wfT t = true → nds t ≤ nds (θ t) ∧ dp t ≤ dp (θ t)
  | .mk k id ss, h => by
    by_cases hk : k = 1
    · obtain ⟨e, h0⟩ := wfT_var h (by simpa [Ty.kd] using hk)
      simp only [Ty.id] at e h0
      rw [e]
      have h1 := nds_pos (θ (.mk 1 id []))
      have h2 := (dp_bd (θ (.mk 1 id []))).1
      simp only [nds, ndsL, dp, dpL]
      omega
    · rw [hθ _ (by simpa [Ty.kd] using hk)]
      obtain ⟨h1, h2⟩ := hom_geL hθ ss (wfT_mem h)
      have h2 := h2 0
      simp only [nds, Ty.args, dp]; omega
theorem hom_geL {θ : Ty → Ty} (hθ : Hom θ) : ∀ ts : List Ty, (∀ a ∈ ts, wfT a = true) → ndsL ts ≤ ndsL (ts.map θ) ∧ ∀ d, dpL ts d ≤ dpL (ts.map θ) d
  | [], _ => ⟨Nat.le_refl _, fun d => Int.le_refl _⟩
  | t :: ts, h => by
    obtain ⟨h1, h2⟩ := hom_ge hθ t (h t (by simp))
    obtain ⟨h3, h4⟩ := hom_geL hθ ts fun a ha => h a (by simp [ha])
    refine ⟨by simp only [List.map_cons, ndsL]; omega, fun d => ?_⟩
    simp only [List.map_cons, dpL]
    refine Int.le_trans (h4 _) (dpL_mono _ _ _ ?_)
    split <;> split <;> omega
end
theorem no_big {L : SB} (hw : WF L) {θ : Ty → Ty} (hθ : Hom θ) (hr : Resp θ L) (hb : BV θ) : allLim L (sg L) = true := by
  unfold allLim
  rw [List.all_eq_true]
  intro x hx
  have hl := lk_of_mem (wf_nodup hw) hx
  obtain ⟨_, h0, hg⟩ := wf_dec hw _ _ hl
  obtain ⟨h1, h2⟩ := lim_le (hb x.1 h0)
  obtain ⟨h3, h4⟩ := hom_ge hθ (sg L x.2) (sg_wf hw _ hg.1)
  rw [hom_sg hθ hw hr _ hg.1, ← hr _ _ hl] at h3 h4
  exact lim_of (by omega) (by omega)
theorem neS_nil : neS [] := fun v t h => by cases h
/-- a system with a solution of small types is solved -/
theorem complete {es : List Eqn} {bs : List Bd} {ok : Bool} (h : UAns es bs ok) (h1 : es.length ≤ 100) (h2 : es.any badQ = false) (hne : neQ es) {θ : Ty → Ty} (hθ : Hom θ) (hb : BV θ) (hs : Sol θ es) :
    ok = true ∧ ∃ L, WF L ∧ bs = ansB L ∧ Resp θ L ∧ runR [] es true L ∧ allLim L (sg L) = true := by
  have hg := bad_good h2
  have hn : ∀ e ∈ es, nds (θ e.l) < 20000 := fun e he => by
    obtain ⟨g1, _⟩ := hg e he
    have := nds_hom hθ hb e.l g1.1
    have := g1.2
    omega
  have hr0 : Resp θ [] := fun v t h => by cases h
  cases h with
  | bad h =>
    rcases h with h | h
    · omega
    · rw [h2] at h; cases h
  | fail _ _ hrun =>
    have s := run_spec es [] _ _ hrun .nil hg
    have := (s.cpl neS_nil hne θ hθ hr0 hs).2 hn
    cases this
  | big _ _ hrun hw ha =>
    have s := run_spec es [] _ _ hrun .nil hg
    have := (s.cpl neS_nil hne θ hθ hr0 hs).1
    rw [no_big hw hθ this hb] at ha
    cases ha
  | ok _ _ hrun hw ha =>
    have s := run_spec es [] _ _ hrun .nil hg
    exact ⟨rfl, _, hw, rfl, (s.cpl neS_nil hne θ hθ hr0 hs).1, hrun, ha⟩
theorem ans_BV {L : SB} (hw : WF L) (ha : allLim L (sg L) = true) : BV (sg L) := fun v h0 => by
  cases hl : lk L v with
  | some t =>
    rw [(sg_bound hw (.mk 1 v []) t rfl hl).1]
    unfold allLim at ha
    rw [List.all_eq_true] at ha
    exact ha _ (lk_mem hl)
  | none =>
    rw [sg_free hw (.mk 1 v []) ⟨by simp [wfT, nwf, wfTL, h0], by simp [nds, ndsL]⟩ rfl hl]
    exact lim_of (by simp [nds, ndsL]) (by simp [dp, dpL])
theorem law31 {es : List Eqn} {bs : List Bd} (h : UAns es bs true) (hne : neQ es) : (∀ e ∈ es, subT bs e.l = subT bs e.r) ∧ (∀ b ∈ bs, subT bs b.t = b.t) ∧ bs.Pairwise (fun a b => a.v < b.v) := by
  cases h with
  | @ok L h1 h2 hrun hw ha =>
    have hg := bad_good h2
    have s := run_spec es [] _ _ hrun .nil hg
    refine ⟨fun e he => ?_, fun b hb => ?_, ansB_sorted hw⟩
    · rw [subT_sg hw _ (hg e he).1.1, subT_sg hw _ (hg e he).2.1]
      exact s.snd neS_nil hne rfl (sg L) (self_hom L) (self_resp hw) e he
    · obtain ⟨x, hx, rfl⟩ := ansB_mem.1 hb
      have hgx := (wf_dec hw _ _ (lk_of_mem (wf_nodup hw) hx)).2.2
      rw [subT_sg hw _ (sg_wf hw _ hgx.1)]
      exact hom_sg (self_hom L) hw (self_resp hw) _ hgx.1
theorem law32 {es : List Eqn} {x : Eqn} {bs us : List Bd} {ok : Bool} (h : UAns es bs ok) (h' : UAns (es ++ [x]) us true) (hne : neQ (es ++ [x])) : ok = true ∧ ∀ b ∈ bs, subT us b.t = subT us (.mk 1 b.v []) := by
  have hne1 : neQ es := fun e he => hne e (by simp [he])
  cases h' with
  | @ok L' h1 h2 hrun hw ha =>
    have hg := bad_good h2
    have s := run_spec _ [] _ _ hrun .nil hg
    have hsol : Sol (sg L') (es ++ [x]) := s.snd neS_nil hne rfl (sg L') (self_hom L') (self_resp hw)
    obtain ⟨hok, L, hwL, rfl, hr, _, _⟩ := complete h (by simp only [List.length_append, List.length_singleton] at h1; omega) (by
      rw [List.any_append] at h2; exact (Bool.or_eq_false_iff.1 h2).1) hne1 (self_hom L') (ans_BV hw ha) fun e he => hsol e (by simp [he])
    refine ⟨hok, fun b hb => ?_⟩
    obtain ⟨y, hy, rfl⟩ := ansB_mem.1 hb
    have hl := lk_of_mem (wf_nodup hwL) hy
    obtain ⟨_, h0, hgy⟩ := wf_dec hwL _ _ hl
    rw [subT_sg hw _ (sg_wf hwL _ hgy.1), subT_sg hw _ (by simp [wfT, nwf, wfTL, h0]), hom_sg (self_hom L') hwL hr _ hgy.1]
    exact (hr _ _ hl).symm
/-- a valid type is small -/
theorem val_lim {t : Ty} (h : valT t = 0) : limT t = true := by
  rw [val_err] at h
  unfold errT at h
  by_cases h1 : (nds t : Int) > 100
  · simp [h1] at h
  · by_cases h2 : dp t > 12
    · simp [h2] at h
    · exact lim_of (by omega) (by omega)
theorem sub_BV {s : List Bd} (h : ∀ b ∈ s, valT b.t = 0) : BV (subT s) := fun v h0 => by
  cases hf : findB s v with
  | none =>
    have : subT s (.mk 1 v []) = .mk 1 v [] := by simp [subT, mapT, subG, Ty.kd, Ty.id, hf, mapTL]
    rw [this]
    exact lim_of (by simp [nds, ndsL]) (by simp [dp, dpL])
  | some t =>
    have : subT s (.mk 1 v []) = t := by simp [subT, mapT, subG, Ty.kd, Ty.id, hf]
    rw [this]
    have hm : ∀ {s : List Bd}, findB s v = some t → ∃ b ∈ s, b.t = t := by
      intro s
      induction s with
      | nil => intro h; cases h
      | cons b s ih =>
        intro h
        simp only [findB] at h
        split at h
        · cases h; exact ⟨b, by simp, rfl⟩
        · obtain ⟨c, hc, e⟩ := ih h; exact ⟨c, by simp [hc], e⟩
    obtain ⟨b, hb, e⟩ := hm hf
    rw [← e]; exact val_lim (h b hb)
mutual
theorem occ_nn {v : Int} : ∀ t : Ty, wfT t = true → occ v t = true → 0 ≤ v
  | .mk k id ss, h, ho => by
    by_cases hk : k = 1
    · obtain ⟨e, h0⟩ := wfT_var h (by simpa [Ty.kd] using hk)
      simp only [Ty.id] at e h0
      rw [e] at ho
      simp [occ, occL] at ho
      omega
    · have hk' : (k == 1) = false := by simpa using hk
      simp only [occ, hk', Bool.false_and, Bool.false_or] at ho
      exact occL_nn ss (wfT_mem h) ho
theorem occL_nn {v : Int} : ∀ ts : List Ty, (∀ a ∈ ts, wfT a = true) → occL v ts = true → 0 ≤ v
  | [], _, h => by simp [occL] at h
  | t :: ts, h, ho => by
    simp only [occL, Bool.or_eq_true] at ho
    rcases ho with ho | ho
    · exact occ_nn t (h t (by simp)) ho
    · exact occL_nn ts (fun a ha => h a (by simp [ha])) ho
end
theorem law33 {es : List Eqn} {bs other : List Bd} {ok : Bool} (h : UAns es bs ok) (hlen : es.length ≤ 20) (hne : neQ es) (hv : es.any badQ = false) (hs : ∀ e ∈ es, subT other e.l = subT other e.r) :
    (ok = false → ∃ b ∈ other, ¬ valT b.t = 0) ∧ (ok = true → ∀ e ∈ es, ∀ v, occ v e.l = true ∨ occ v e.r = true → subT other (.mk 1 v []) = subT other (subT bs (.mk 1 v []))) := by
  have hg := bad_good hv
  refine ⟨fun hf => ?_, fun ht e he v hov => ?_⟩
  · refine Classical.byContradiction fun hno => ?_
    have hall : ∀ b ∈ other, valT b.t = 0 := fun b hb => Classical.byContradiction fun h => hno ⟨b, hb, h⟩
    have := (complete h (by omega) hv hne (subT_hom other) (sub_BV hall) hs).1
    rw [hf] at this; cases this
  · subst ht
    cases h with
    | @ok L h1 h2 hrun hw ha =>
      have s := run_spec es [] _ _ hrun .nil hg
      have hr : Resp (subT other) L := (s.cpl neS_nil hne (subT other) (subT_hom other) (fun v t h => by cases h) hs).1
      have h0 : 0 ≤ v := by
        rcases hov with ho | ho
        · exact occ_nn _ (hg e he).1.1 ho
        · exact occ_nn _ (hg e he).2.1 ho
      have hwv : wfT (.mk 1 v []) = true := by simp [wfT, nwf, wfTL, h0]
      rw [subT_sg hw _ hwv, hom_sg (subT_hom other) hw hr _ hwv]
end Go.Proofs.Ytiediojibljpiaa
