/- P6: joined from ZP6. -/
import Derived.Test.YtiediojibljpiaaVFnU
import Derived.Test.YtiediojibljpiaaVP5
import Derived.Test.YtiediojibljpiaaVS2
/- What Unify answers. -/
set_option maxRecDepth 10000
set_option linter.unusedSimpArgs false
set_option linter.unusedVariables false
namespace Go.Proofs.Ytiediojibljpiaa
open Go Go.Ab
def insS (b : Bd) : List Bd → List Bd
  | [] => [b]
  | c :: cs => if c.v < b.v then c :: insS b cs else b :: c :: cs
def srt : List Bd → List Bd
  | [] => []
  | b :: bs => insS b (srt bs)
theorem insS_perm (b : Bd) : ∀ cs : List Bd, (insS b cs).Perm (b :: cs)
  | [] => .refl _
  | c :: cs => by
    simp only [insS]
    split
    · exact ((insS_perm b cs).cons c).trans (.swap _ _ _)
    · exact .refl _
theorem srt_perm : ∀ bs : List Bd, (srt bs).Perm bs
  | [] => .refl _
  | b :: bs => (insS_perm b _).trans ((srt_perm bs).cons b)
theorem insS_sorted {b : Bd} : ∀ {cs : List Bd}, cs.Pairwise (fun a b => a.v < b.v) → (∀ c ∈ cs, ¬ c.v = b.v) → (insS b cs).Pairwise (fun a b => a.v < b.v)
  | [], _, _ => by simp [insS]
  | c :: cs, h, hn => by
    rw [List.pairwise_cons] at h
    simp only [insS]
    split
    · rename_i hlt
      rw [List.pairwise_cons]
      refine ⟨fun x hx => ?_, insS_sorted h.2 fun d hd => hn d (by simp [hd])⟩
      rcases List.mem_cons.1 ((insS_perm b cs).subset hx) with rfl | hx
      · exact hlt
      · exact h.1 x hx
    · rename_i hlt
      have hc := hn c (by simp)
      rw [List.pairwise_cons, List.pairwise_cons]
      refine ⟨fun x hx => ?_, h.1, h.2⟩
      rcases List.mem_cons.1 hx with rfl | hx
      · omega
      · have := h.1 x hx; omega
theorem srt_sorted : ∀ {bs : List Bd}, (bs.map (·.v)).Nodup → (srt bs).Pairwise (fun a b => a.v < b.v)
  | [], _ => .nil
  | b :: bs, h => by
    simp only [List.map_cons, List.nodup_cons] at h
    refine insS_sorted (srt_sorted h.2) fun c hc e => h.1 ?_
    rw [← e]
    exact List.mem_map.2 ⟨c, (srt_perm bs).subset hc, rfl⟩
theorem lk_mem : ∀ {L : SB} {v : Int} {t : Ty}, lk L v = some t → (v, t) ∈ L
  | [], v, t, h => by cases h
  | (k, q) :: L, v, t, h => by
    simp only [lk] at h
    split at h
    · rename_i e; cases h; rw [e]; simp
    · exact List.mem_cons_of_mem _ (lk_mem h)
theorem lk_none : ∀ {L : SB} {v : Int}, lk L v = none → ∀ x ∈ L, ¬ x.1 = v
  | [], v, _, x, h => by cases h
  | (k, q) :: L, v, h, x, hx => by
    simp only [lk] at h
    split at h
    · cases h
    · rename_i e
      rcases List.mem_cons.1 hx with rfl | hx
      · exact fun h => e h.symm
      · exact lk_none h x hx
theorem wf_nodup {L : SB} (hw : WF L) : (L.map (·.1)).Nodup := by
  induction hw with
  | nil => simp
  | @snoc L v x hw hn hg ho hv h0 ih =>
    rw [List.map_append, List.nodup_append]
    refine ⟨ih, by simp, fun a ha b hb => ?_⟩
    simp only [List.map_cons, List.map_nil, List.mem_singleton] at hb
    obtain ⟨y, hy, rfl⟩ := List.mem_map.1 ha
    rw [hb]
    exact lk_none hn y hy
theorem lk_of_mem : ∀ {L : SB} {x : Int × Ty}, (L.map (·.1)).Nodup → x ∈ L → lk L x.1 = some x.2
  | [], x, _, h => by cases h
  | (k, q) :: L, x, hn, h => by
    simp only [List.map_cons, List.nodup_cons] at hn
    simp only [lk]
    rcases List.mem_cons.1 h with rfl | h
    · simp
    · rw [if_neg fun e => hn.1 (by rw [← e]; exact List.mem_map.2 ⟨x, h, rfl⟩)]
      exact lk_of_mem hn.2 h
/-- the bindings as the answer has them -/
def ansB (L : SB) : List Bd := srt (L.map fun x => ⟨x.1, sg L x.2⟩)
theorem ansB_mem {L : SB} {b : Bd} : b ∈ ansB L ↔ ∃ x ∈ L, b = ⟨x.1, sg L x.2⟩ := by
  unfold ansB
  rw [(srt_perm _).mem_iff, List.mem_map]
  exact ⟨fun ⟨x, h, e⟩ => ⟨x, h, e.symm⟩, fun ⟨x, h, e⟩ => ⟨x, h, e.symm⟩⟩
theorem ansB_sorted {L : SB} (hw : WF L) : (ansB L).Pairwise (fun a b => a.v < b.v) := by
  refine srt_sorted ?_
  rw [List.map_map]
  exact wf_nodup hw
/-- every type as the checks let it in -/
theorem bad_good {es : List Eqn} (h : es.any badQ = false) : goodQ es := fun e he => by
  rw [List.any_eq_false] at h
  have h1 := h e he
  unfold badQ at h1
  have val : ∀ t, valT t = 0 → good t := fun t h => by
    rw [val_err] at h
    unfold errT at h
    by_cases h1 : (nds t : Int) > 100
    · simp [h1] at h
    · by_cases h2 : dp t > 12
      · simp [h2] at h
      · cases h3 : wfT t with
        | false => simp [h1, h2, h3] at h
        | true => exact ⟨h3, by omega⟩
  split at h1
  · exact absurd rfl h1
  · rename_i hl
    exact ⟨val _ (by simpa using hl), val _ (by simpa using h1)⟩
/-- what Unify says of a system -/
inductive UAns (es : List Eqn) : List Bd → Bool → Prop
  | bad : (es.length > 100 ∨ es.any badQ = true) → UAns es [] false
  | fail {L : SB} : es.length ≤ 100 → es.any badQ = false → runR [] es false L → UAns es [] false
  | big {L : SB} : es.length ≤ 100 → es.any badQ = false → runR [] es true L → WF L → allLim L (sg L) = false → UAns es [] false
  | ok {L : SB} : es.length ≤ 100 → es.any badQ = false → runR [] es true L → WF L → allLim L (sg L) = true → UAns es (ansB L) true
theorem unify_ans (es : List Eqn) : ∃ bs ok, PCall Try.prog 9 [.list 6 (encQ es)] (ansV bs ok) ∧ UAns es bs ok := by
  cases h1 : decide ((es.length : Int) > 100) with
  | true => exact ⟨[], false, unify_bad (by rw [h1]; rfl), .bad (.inl (by have := of_decide_eq_true h1; omega))⟩
  | false =>
    have hl : es.length ≤ 100 := by have := of_decide_eq_false h1; omega
    cases h2 : es.any badQ with
    | true => exact ⟨[], false, unify_bad (by rw [h1, h2]; rfl), .bad (.inr h2)⟩
    | false =>
      have hg := bad_good h2
      obtain ⟨r, L, hr⟩ := run_total es [] .nil hg
      have s := run_spec es [] r L hr .nil hg
      have hgL : ∀ x ∈ L, good x.2 := fun x hx => (wf_dec s.wf _ _ (lk_of_mem (wf_nodup s.wf) hx)).2.2
      have hlen : L.length ≤ 1000000000 := by have := s.len; simp only [List.length_nil] at this; omega
      have hrun := fun {bs : List Bd} {ok : Bool} => unify_run (bs := bs) (ok := ok) h1 h2 hr (wf_Sg s.wf) hgL hlen
      cases r with
      | false => exact ⟨[], false, hrun (fun _ => ⟨rfl, rfl⟩) (fun _ => ⟨rfl, rfl⟩) (fun h => by cases h), .fail hl h2 hr⟩
      | true =>
        cases ha : allLim L (sg L) with
        | false => exact ⟨[], false, hrun (fun _ => ⟨rfl, rfl⟩) (fun _ => ⟨rfl, rfl⟩) (fun _ h => by rw [ha] at h; cases h), .big hl h2 hr s.wf ha⟩
        | true =>
          refine ⟨ansB L, true, hrun (fun h => by cases h) (fun h => by rw [ha] at h; cases h) (fun _ _ => ⟨rfl, fun e => ?_, sort0_ok, fun xs hx hp => ?_⟩), .ok hl h2 hr s.wf ha⟩
          · subst e; rfl
          · have hp2 : xs.Perm (ansB L) := hp.trans (srt_perm _).symm
            exact ⟨hp2.length_eq, sort_ok xs (ansB L) hp2 (ansB_sorted s.wf)⟩
end Go.Proofs.Ytiediojibljpiaa
