/- R2: joined from ZR2. -/
import Derived.Test.YtiediojibljpiaaVFnU
import Derived.Test.YtiediojibljpiaaVR1
/- The work list comes to an end. -/
set_option maxRecDepth 10000
set_option linter.unusedSimpArgs false
set_option linter.unusedVariables false
namespace Go.Proofs.Ytiediojibljpiaa
open Go Go.Ab
def inV (V : List Int) (t : Ty) : Prop := ∀ w, occ w t = true → w ∈ V
def VIn (V : List Int) (L : SB) : Prop := ∀ v t, lk L v = some t → v ∈ V ∧ inV V t
theorem inV_mem {V : List Int} {t a : Ty} (h : inV V t) (ha : a ∈ t.args) : inV V a := fun w hw => h w (by
  cases t with
  | mk k id ss =>
    simp only [occ, Bool.or_eq_true]
    right
    have h2 := occL_map (v := w) (σ := fun t => t) ss
    simp only [List.map_id'] at h2
    rw [h2, List.any_eq_true]
    exact ⟨a, ha, hw⟩)
theorem hd_in {V : List Int} {L : SB} (hL : VIn V L) : ∀ (n : Nat) (t r : Ty), inV V t → hdN n L t = some r → inV V r
  | 0, t, r, _, h => by cases h
  | n + 1, t, r, ht, h => by
    simp only [hdN] at h
    split at h
    · cases hl : lk L t.id with
      | none => rw [hl] at h; cases h; exact ht
      | some u => rw [hl] at h; exact hd_in hL n u r (hL _ _ hl).2 h
    · cases h; exact ht
theorem VIn_snoc {V : List Int} {L : SB} {v : Int} {t : Ty} (hL : VIn V L) (hv : v ∈ V) (ht : inV V t) : VIn V (L ++ [(v, t)]) := fun a u ha => by
  rw [lk_snoc] at ha
  cases hl : lk L a with
  | some x => rw [hl] at ha; cases ha; exact hL _ _ hl
  | none =>
    rw [hl] at ha
    simp only at ha
    split at ha
    · rename_i e; cases ha; rw [e]; exact ⟨hv, ht⟩
    · cases ha
theorem nodup_sub : ∀ {l V : List Int}, l.Nodup → (∀ x ∈ l, x ∈ V) → l.length ≤ V.length
  | [], V, _, _ => by simp
  | a :: l, V, h, hs => by
    rw [List.nodup_cons] at h
    have ha := hs a (by simp)
    have := nodup_sub (l := l) (V := V.erase a) h.2 fun x hx => by
      have hne : x ≠ a := fun e => h.1 (e ▸ hx)
      exact (List.mem_erase_of_ne hne).2 (hs x (by simp [hx]))
    rw [List.length_erase_of_mem ha] at this
    have hp : 0 < V.length := List.length_pos_of_mem ha
    simp only [List.length_cons]; omega
theorem keys_le {V : List Int} {L : SB} (hw : WF L) (hL : VIn V L) : L.length ≤ V.length := by
  have := nodup_sub (V := V) (wf_nodup hw) fun x hx => by
    obtain ⟨y, hy, rfl⟩ := List.mem_map.1 hx
    exact (hL _ _ (lk_of_mem (wf_nodup hw) hy)).1
  simpa using this
/-- what is left to be looked at -/
def sum1 (θ : Ty → Ty) : Prs → Nat
  | [] => 0
  | x :: ps => nds (θ x.1) + sum1 θ ps
theorem sum1_app (θ : Ty → Ty) : ∀ ps qs : Prs, sum1 θ (ps ++ qs) = sum1 θ ps + sum1 θ qs
  | [], qs => by simp [sum1]
  | x :: ps, qs => by simp only [List.cons_append, sum1, sum1_app θ ps qs]; omega
theorem sum1_zip (θ : Ty → Ty) : ∀ ta tb : List Ty, ta.length = tb.length → sum1 θ (ta.zip tb) = ndsL (ta.map θ)
  | [], [], _ => rfl
  | a :: ta, b :: tb, h => by simp only [List.zip_cons_cons, sum1, List.map_cons, ndsL, sum1_zip θ ta tb (by simpa using h)]
  | [], _ :: _, h => by simp at h
  | _ :: _, [], h => by simp at h
def inP (V : List Int) (ps : Prs) : Prop := ∀ x ∈ ps, inV V x.1 ∧ inV V x.2
theorem w_total {V : List Int} : ∀ (k N : Nat) (L : SB) (ps : Prs), WF L → VIn V L → goodP ps → inP V ps → V.length ≤ L.length + k → sum1 (sg L) ps ≤ N → ∃ m R L2, WR m L ps R L2 := by
  intro k
  induction k using Nat.strongRecOn with
  | _ k ihk =>
    intro N
    induction N with
    | zero =>
      intro L ps hw hL hg hi hk hN
      cases ps with
      | nil => exact ⟨1, true, L, rfl, rfl⟩
      | cons x ps => have := nds_pos (sg L x.1); simp only [sum1] at hN; omega
    | succ N ihN =>
      intro L ps hw hL hg hi hk hN
      cases ps with
      | nil => exact ⟨1, true, L, rfl, rfl⟩
      | cons x ps =>
        obtain ⟨a, b⟩ := x
        obtain ⟨ga, gb⟩ := hg (a, b) (by simp)
        obtain ⟨ia, ib⟩ := hi (a, b) (by simp)
        have hgp : goodP ps := fun x hx => hg x (by simp [hx])
        have hip : inP V ps := fun x hx => hi x (by simp [hx])
        simp only [sum1] at hN
        have hpos := nds_pos (sg L a)
        have hσ := wf_Sg hw
        obtain ⟨na, a', ha⟩ := hσ.hd a ga
        obtain ⟨nb, b', hb⟩ := hσ.hd b gb
        have hd := heads hw ga gb ⟨na, ha⟩ ⟨nb, hb⟩
        have ia' := hd_in hL na a a' ia ha
        have ib' := hd_in hL nb b b' ib hb
        suffices hs : ∃ m R L2, (if (a'.kd == 0 || b'.kd == 0) = true then WR m L ps R L2
            else if (a'.kd == 1 && b'.kd == 1) = true then WR m (vvL L a'.id b'.id) ps R L2
            else if (a'.kd == 1) = true then ∃ r1 L1, Bnd L a'.id b' r1 L1 ∧ (if r1 = true then WR m L1 ps R L2 else R = false ∧ L2 = L1)
            else if (b'.kd == 1) = true then ∃ r1 L1, Bnd L b'.id a' r1 L1 ∧ (if r1 = true then WR m L1 ps R L2 else R = false ∧ L2 = L1)
            else if (a'.kd != b'.kd || a'.id != b'.id || a'.args.length != b'.args.length) = true then R = false ∧ L2 = L
            else WR m L (a'.args.zip b'.args ++ ps) R L2) by
          obtain ⟨m, R, L2, h⟩ := hs
          exact ⟨m + 1, R, L2, a', b', ⟨na, ha⟩, ⟨nb, hb⟩, h⟩
        have vin : ∀ {t : Ty}, t.kd = 1 → good t → inV V t → t.id ∈ V := fun {t} hk hg hi => hi t.id (by
          obtain ⟨e, _⟩ := good_var hg hk
          rw [e]; simp [occ, Ty.id])
        have grow : ∀ (v : Int) (t : Ty), WF (L ++ [(v, t)]) → VIn V (L ++ [(v, t)]) → ∃ m R L2, WR m (L ++ [(v, t)]) ps R L2 := fun v t hw1 hL1 => by
          have h1 := keys_le hw1 hL1
          simp only [List.length_append, List.length_singleton] at h1
          exact ihk (k - 1) (by omega) _ (L ++ [(v, t)]) ps hw1 hL1 hgp hip (by simp only [List.length_append, List.length_singleton]; omega) (Nat.le_refl _)
        split
        · exact ihN L ps hw hL hgp hip hk (by omega)
        split
        · rename_i h11
          simp only [Bool.and_eq_true, beq_iff_eq] at h11
          obtain ⟨ea, a0⟩ := good_var hd.ga h11.1
          obtain ⟨eb, b0⟩ := good_var hd.gb h11.2
          by_cases hid : a'.id = b'.id
          · unfold vvL
            rw [if_pos hid]
            exact ihN L ps hw hL hgp hip hk (by omega)
          · have hx := hd.fa h11.1
            have hy := hd.fb h11.2
            obtain ⟨⟨w1, _, _⟩, _⟩ := vv_case hw hx hy a0 b0 hid rfl
            unfold vvL
            rw [if_neg hid]
            have hva := vin h11.1 hd.ga ia'
            have hvb := vin h11.2 hd.gb ib'
            by_cases hlt : b'.id < a'.id
            · rw [if_neg (by omega), if_pos hlt] at w1 ⊢
              rw [insB_new hx] at w1 ⊢
              exact grow _ _ w1 (VIn_snoc hL hva fun w hw => by simp [occ, occL] at hw; rw [← hw]; exact hvb)
            · rw [if_pos (by omega), if_neg hlt] at w1 ⊢
              rw [insB_new hy] at w1 ⊢
              exact grow _ _ w1 (VIn_snoc hL hvb fun w hw => by simp [occ, occL] at hw; rw [← hw]; exact hva)
        rename_i h11
        split
        · rename_i h1
          have h1' : a'.kd = 1 := by simpa using h1
          have h1b : ¬ b'.kd = 1 := fun e => h11 (by simp [h1', e])
          obtain ⟨r1, L1, hB⟩ := bnd_total hw (v := a'.id) hd.gb
          cases r1 with
          | false => exact ⟨0, false, L1, false, L1, hB, by rw [if_neg (by decide)]; exact ⟨rfl, rfl⟩⟩
          | true =>
            obtain ⟨e, _⟩ := (bnd_spec hw (hd.fa h1') hd.gb hB).2 rfl
            obtain ⟨⟨w1, _, _⟩, _⟩ := bind_case hw (hd.fa h1') (good_var hd.ga h1').2 hd.gb h1b hB
            rw [e] at w1
            obtain ⟨m, R, L2, h⟩ := grow _ _ w1 (VIn_snoc hL (vin h1' hd.ga ia') ib')
            exact ⟨m, R, L2, true, L1, hB, by rw [if_pos rfl, e]; exact h⟩
        rename_i h1
        split
        · rename_i h1b
          have h1b' : b'.kd = 1 := by simpa using h1b
          obtain ⟨r1, L1, hB⟩ := bnd_total hw (v := b'.id) hd.ga
          cases r1 with
          | false => exact ⟨0, false, L1, false, L1, hB, by rw [if_neg (by decide)]; exact ⟨rfl, rfl⟩⟩
          | true =>
            obtain ⟨e, _⟩ := (bnd_spec hw (hd.fb h1b') hd.ga hB).2 rfl
            obtain ⟨⟨w1, _, _⟩, _⟩ := bind_case hw (hd.fb h1b') (good_var hd.gb h1b').2 hd.ga (by simpa using h1) hB
            rw [e] at w1
            obtain ⟨m, R, L2, h⟩ := grow _ _ w1 (VIn_snoc hL (vin h1b' hd.gb ib') ia')
            exact ⟨m, R, L2, true, L1, hB, by rw [if_pos rfl, e]; exact h⟩
        split
        · exact ⟨0, false, L, rfl, rfl⟩
        · rename_i hm
          simp only [Bool.or_eq_true, bne_iff_ne, ne_eq, not_or, Decidable.not_not] at hm
          refine ihN L _ hw hL (goodP_zip (fun c hc => good_mem hd.ga hc) (fun c hc => good_mem hd.gb hc) hgp) (fun x hx => ?_) hk ?_
          · rcases List.mem_append.1 hx with hx | hx
            · have := List.of_mem_zip (a := x.1) (b := x.2) hx
              exact ⟨inV_mem ia' this.1, inV_mem ib' this.2⟩
            · exact hip x hx
          · rw [sum1_app, sum1_zip _ _ _ hm.2]
            have h1a : ¬ a'.kd = 1 := by simpa using h1
            rw [← hd.ea, sg_app L a' h1a] at hN
            simp only [nds] at hN
            omega
/-- all variables of a system -/
def varsQ (es : List Eqn) : List Int := es.flatMap fun e => fvs e.l ++ fvs e.r
theorem inP_prs (es : List Eqn) : inP (varsQ es) (prs es) := fun x hx => by
  obtain ⟨e, he, rfl⟩ := List.mem_map.1 hx
  refine ⟨fun w hw => ?_, fun w hw => ?_⟩ <;> (unfold varsQ; rw [List.mem_flatMap]; refine ⟨e, he, ?_⟩; rw [List.mem_append, mem_fvs, mem_fvs])
  · exact .inl hw
  · exact .inr hw
theorem w_run {es : List Eqn} (hg : goodQ es) : ∃ m R L2, WR m [] (prs es) R L2 :=
  w_total (V := varsQ es) (varsQ es).length _ [] (prs es) .nil (fun v t h => by cases h) (goodP_prs hg) (inP_prs es) (by simp) (Nat.le_refl _)
theorem wr_in {V : List Int} : ∀ (n : Nat) (L : SB) (ps : Prs) (r : Bool) (L' : SB), WR n L ps r L' → WF L → goodP ps → VIn V L → inP V ps → VIn V L'
  | 0, L, ps, r, L', h, _, _, _, _ => h.elim
  | n + 1, L, [], r, L', h, hw, _, hL, _ => by obtain ⟨_, rfl⟩ := h; exact hL
  | n + 1, L, (a, b) :: ps, r, L', h, hw, hg, hL, hi => by
    obtain ⟨a', b', ha, hb, h⟩ := h
    have hd := heads hw (hg (a, b) (by simp)).1 (hg (a, b) (by simp)).2 ha hb
    have hgp : goodP ps := fun x hx => hg x (by simp [hx])
    have hip : inP V ps := fun x hx => hi x (by simp [hx])
    obtain ⟨na, ha⟩ := ha
    obtain ⟨nb, hb⟩ := hb
    have ia' := hd_in hL na a a' (hi (a, b) (by simp)).1 ha
    have ib' := hd_in hL nb b b' (hi (a, b) (by simp)).2 hb
    have vin : ∀ {t : Ty}, t.kd = 1 → good t → inV V t → t.id ∈ V := fun {t} hk hg hi => hi t.id (by
      obtain ⟨e, _⟩ := good_var hg hk
      rw [e]; simp [occ, Ty.id])
    split at h
    · exact wr_in n L ps r L' h hw hgp hL hip
    split at h
    · rename_i h11
      simp only [Bool.and_eq_true, beq_iff_eq] at h11
      have hx := hd.fa h11.1
      have hy := hd.fb h11.2
      obtain ⟨w1, _⟩ := vvL_ext hw hx hy (good_var hd.ga h11.1).2 (good_var hd.gb h11.2).2
      refine wr_in n _ ps r L' h w1 hgp ?_ hip
      have hva := vin h11.1 hd.ga ia'
      have hvb := vin h11.2 hd.gb ib'
      unfold vvL
      split
      · exact hL
      · split <;> split
        · omega
        · rw [insB_new hy]; exact VIn_snoc hL hvb fun w hw => by simp [occ, occL] at hw; rw [← hw]; exact hva
        · rw [insB_new hx]; exact VIn_snoc hL hva fun w hw => by simp [occ, occL] at hw; rw [← hw]; exact hvb
        · omega
    rename_i h11
    split at h
    · rename_i h1
      have h1' : a'.kd = 1 := by simpa using h1
      have h1b : ¬ b'.kd = 1 := fun e => h11 (by simp [h1', e])
      obtain ⟨r1, L1, hB, h⟩ := h
      obtain ⟨⟨w1, _, _⟩, _⟩ := bind_case hw (hd.fa h1') (good_var hd.ga h1').2 hd.gb h1b hB
      obtain ⟨s1, s2⟩ := bnd_spec hw (hd.fa h1') hd.gb hB
      cases r1 with
      | true =>
        rw [if_pos rfl] at h
        refine wr_in n L1 ps r L' h w1 hgp ?_ hip
        rw [(s2 rfl).1]
        exact VIn_snoc hL (vin h1' hd.ga ia') ib'
      | false => rw [if_neg (by decide)] at h; rw [h.2, (s1 rfl).1]; exact hL
    rename_i h1
    split at h
    · rename_i h1b
      have h1b' : b'.kd = 1 := by simpa using h1b
      obtain ⟨r1, L1, hB, h⟩ := h
      obtain ⟨⟨w1, _, _⟩, _⟩ := bind_case hw (hd.fb h1b') (good_var hd.gb h1b').2 hd.ga (by simpa using h1) hB
      obtain ⟨s1, s2⟩ := bnd_spec hw (hd.fb h1b') hd.ga hB
      cases r1 with
      | true =>
        rw [if_pos rfl] at h
        refine wr_in n L1 ps r L' h w1 hgp ?_ hip
        rw [(s2 rfl).1]
        exact VIn_snoc hL (vin h1b' hd.gb ib') ia'
      | false => rw [if_neg (by decide)] at h; rw [h.2, (s1 rfl).1]; exact hL
    split at h
    · obtain ⟨_, rfl⟩ := h; exact hL
    · refine wr_in n L _ r L' h hw (goodP_zip (fun c hc => good_mem hd.ga hc) (fun c hc => good_mem hd.gb hc) hgp) hL fun x hx => ?_
      rcases List.mem_append.1 hx with hx | hx
      · have := List.of_mem_zip (a := x.1) (b := x.2) hx
        exact ⟨inV_mem ia' this.1, inV_mem ib' this.2⟩
      · exact hip x hx
theorem varsQ_len : ∀ es : List Eqn, goodQ es → (varsQ es).length ≤ 200 * es.length
  | [], _ => by simp [varsQ]
  | e :: es, h => by
    have h1 := fvs_len e.l
    have h2 := fvs_len e.r
    have h3 := (h e (by simp)).1.2
    have h4 := (h e (by simp)).2.2
    have h5 := varsQ_len es fun c hc => h c (by simp [hc])
    simp only [varsQ, List.flatMap_cons, List.length_append, List.length_cons] at h5 ⊢
    omega
theorem w_len {es : List Eqn} (hg : goodQ es) (h1 : es.length ≤ 10) {m : Nat} {R : Bool} {L2 : SB} (hW : WR m [] (prs es) R L2) : L2.length ≤ 1000000 := by
  have hw2 := (wr_ext m [] _ R L2 hW .nil (goodP_prs hg)).1
  have := keys_le hw2 (wr_in (V := varsQ es) m [] _ R L2 hW .nil (goodP_prs hg) (fun v t h => by cases h) (inP_prs es))
  have := varsQ_len es hg
  omega
/-- Unify and the work list -/
theorem ans_w {es : List Eqn} {bs : List Bd} {ok : Bool} (h : UAns es bs ok) (h1 : es.length ≤ 100) (h2 : es.any badQ = false) {m : Nat} {R : Bool} {L2 : SB} (hW : WR m [] (prs es) R L2) :
    ok = (R && allLim L2 (sg L2)) ∧ (ok = true → bs = ansB L2) := by
  have hg := bad_good h2
  have hw2 := (wr_ext m [] _ R L2 hW .nil (goodP_prs hg)).1
  cases h with
  | bad h =>
    rcases h with h | h
    · omega
    · rw [h2] at h; cases h
  | fail _ _ hrun =>
    refine ⟨?_, fun h => by cases h⟩
    rcases (run_follow es [] _ _ hrun .nil hg m R L2 hW).2 rfl with hR | ⟨e, he, hn⟩
    · rw [hR]; rfl
    · cases ha : allLim L2 (sg L2) with
      | false => simp
      | true =>
        exfalso
        have h3 := hn (sg L2) (self_hom L2) (self_resp hw2)
        have h4 := nds_hom (self_hom L2) (ans_BV hw2 ha) e.l (hg e he).1.1
        have h5 := (hg e he).1.2
        omega
  | @big L _ _ hrun hw ha =>
    obtain ⟨rfl, rfl⟩ := (run_follow es [] _ _ hrun .nil hg m R L2 hW).1 rfl
    exact ⟨by rw [ha]; rfl, fun h => by cases h⟩
  | @ok L _ _ hrun hw ha =>
    obtain ⟨rfl, rfl⟩ := (run_follow es [] _ _ hrun .nil hg m R L2 hW).1 rfl
    exact ⟨by rw [ha]; rfl, fun _ => rfl⟩
end Go.Proofs.Ytiediojibljpiaa
