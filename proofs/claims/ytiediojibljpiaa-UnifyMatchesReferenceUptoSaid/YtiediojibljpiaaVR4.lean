/- R4: joined from ZR4. -/
import Derived.Test.YtiediojibljpiaaVFnU
import Derived.Test.YtiediojibljpiaaVR3
/- The reference answers as the work list. -/
set_option maxRecDepth 10000
set_option linter.unusedSimpArgs false
set_option linter.unusedVariables false
namespace Go.Proofs.Ytiediojibljpiaa
open Go Go.Ab
theorem root_kd {L : SB} (hw : WF L) {a : Ty} (hg : good a) (hf : a.kd = 1 → lk L a.id = none) : (sg L a).kd = a.kd ∧ (sg L a).id = a.id := by
  by_cases hk : a.kd = 1
  · rw [sg_free hw a hg hk (hf hk)]; exact ⟨rfl, rfl⟩
  · rw [sg_app L a hk]; exact ⟨rfl, rfl⟩
theorem small_of {L : SB} (hw : WF L) (h : bigB 20000 (ansB L) = false) : Small L := fun v h0 => by
  unfold bigB at h
  rw [List.any_eq_false] at h
  cases hl : lk L v with
  | some t =>
    rw [(sg_bound hw (.mk 1 v []) t rfl hl).1]
    have := h ⟨v, sg L t⟩ (ansB_mem.2 ⟨(v, t), lk_mem hl, rfl⟩)
    simpa using this
  | none =>
    rw [sg_free hw (.mk 1 v []) ⟨by simp [wfT, nwf, wfTL, h0], by simp [nds, ndsL]⟩ rfl hl]
    simp [nds, ndsL]
theorem sub1_nds {v : Int} {x t : Ty} {m : Nat} (hm : 1 ≤ m) (hx : nds x ≤ m) : nds (subT [⟨v, x⟩] t) ≤ nds t * m :=
  nds_sub hm (fun b hb => by simp only [List.mem_singleton] at hb; subst hb; exact hx) t
theorem vv_small {L : SB} (h : Small L) {v w : Int} (hf : sg L (.mk 1 w []) = .mk 1 w []) : Small (L ++ [(v, .mk 1 w [])]) := fun y h0 => by
  rw [sg_snoc, hf]
  have := sub1_nds (v := v) (x := .mk 1 w []) (t := sg L (.mk 1 y [])) (m := 1) (by omega) (by simp [nds, ndsL])
  have := h y h0
  omega
/-- no binding is larger than TypeSize can count -/
theorem not_huge {L : SB} (hw : WF L) (hs : Small L) {v : Int} {t : Ty} (hw1 : WF (L ++ [(v, t)])) : bigB 100000000000000 (ansB (L ++ [(v, t)])) = false := by
  unfold bigB
  rw [List.any_eq_false]
  intro b hb
  obtain ⟨x, hx, rfl⟩ := ansB_mem.1 hb
  have hgx := (wf_dec hw1 _ _ (lk_of_mem (wf_nodup hw1) hx)).2.2
  have hgt := (wf_dec hw1 v t (lk_of_mem (x := (v, t)) (wf_nodup hw1) (by simp))).2.2
  have h1 := small_nds hs hgx
  have h2 := small_nds hs hgt
  have h3 := sub1_nds (v := v) (x := sg L t) (t := sg L x.2) (m := 2000000) (by omega) h2
  rw [← sg_snoc] at h3
  have h4 : nds (sg (L ++ [(v, t)]) x.2) ≤ 4000000000000 := Nat.le_trans h3 (by omega)
  simp only [decide_eq_true_eq]; omega
theorem small_huge {L : SB} (hw : WF L) (hs : Small L) : bigB 100000000000000 (ansB L) = false := by
  unfold bigB
  rw [List.any_eq_false]
  intro b hb
  obtain ⟨x, hx, rfl⟩ := ansB_mem.1 hb
  have h1 := small_nds hs (wf_dec hw _ _ (lk_of_mem (wf_nodup hw) hx)).2.2
  simp only [decide_eq_true_eq]; omega
/-- a large binding stays large -/
theorem huge_ext {L1 L2 : SB} (hw1 : WF L1) (hw2 : WF L2) (he : Ext L1 L2) (h : bigB 20000 (ansB L1) = true) : ∃ x ∈ L2, nds (sg L2 x.2) > 20000 := by
  unfold bigB at h
  rw [List.any_eq_true] at h
  obtain ⟨b, hb, h⟩ := h
  obtain ⟨x, hx, rfl⟩ := ansB_mem.1 hb
  have hgx := (wf_dec hw1 _ _ (lk_of_mem (wf_nodup hw1) hx)).2.2
  obtain ⟨M, rfl⟩ := he
  refine ⟨x, by simp [hx], ?_⟩
  have h1 := (hom_ge (self_hom (L1 ++ M)) (sg L1 x.2) (sg_wf hw1 _ hgx.1)).1
  rw [hom_sg (self_hom (L1 ++ M)) hw1 ((self_resp hw2).ext ⟨M, rfl⟩) _ hgx.1] at h1
  simp only [decide_eq_true_eq] at h
  omega
def Good4 (o : Option (List Bd)) (R : Bool) (L2 : SB) : Prop := (∀ s, o = some s → R = true ∧ s = ansB L2) ∧ (o = none → R = false ∨ ∃ x ∈ L2, nds (sg L2 x.2) > 20000)
theorem mgu_w {B : (Ty → Ty) → Nat} (hBB : ∀ L, WF L → Small L → B (sg L) ≤ 500000000) : ∀ (n : Nat) (L : SB) (ps : Prs) (R : Bool) (L2 : SB), WR n L ps R L2 → WF L → goodP ps → Small L → ∀ w, Its L w ps → (∀ θ, Hom θ → Resp θ L → sum1 θ ps ≤ B θ) → L2.length ≤ 1000000 →
    ∃ o, mgu n w (ansB L) = some o ∧ Good4 o R L2
  | 0, L, ps, R, L2, h, _, _, _, _, _, _, _ => h.elim
  | n + 1, L, [], R, L2, h, hw, _, hsm, w, hI, _, _ => by
    obtain ⟨rfl, rfl⟩ := h
    cases hI
    rw [mgu, small_huge hw hsm, if_neg (by decide)]
    exact ⟨some (ansB L2), rfl, fun s e => (by cases e; exact ⟨rfl, rfl⟩), fun e => (by cases e)⟩
  | n + 1, L, (a, b) :: ps, R, L2, h, hw, hg, hsm, _, .cons (x := e) (w := w) hi hI, hB, hlen => by
    have hL2 := wr_ext (n + 1) L _ R L2 h hw hg
    obtain ⟨a', b', ha, hb, h⟩ := h
    have hd := heads hw (hg (a, b) (by simp)).1 (hg (a, b) (by simp)).2 ha hb
    have hgp : goodP ps := fun x hx => hg x (by simp [hx])
    obtain ⟨wl, wr, il, ir⟩ := hi
    have eA : subT (ansB L) e.l = sg L a' := by rw [subT_sg hw _ wl, il, hd.ea]
    have eB : subT (ansB L) e.r = sg L b' := by rw [subT_sg hw _ wr, ir, hd.eb]
    obtain ⟨ka, ia⟩ := root_kd hw hd.ga hd.fa
    obtain ⟨kb, ib⟩ := root_kd hw hd.gb hd.fb
    have hB1 : ∀ {L1 : SB}, Ext L L1 → ∀ θ, Hom θ → Resp θ L1 → sum1 θ ps ≤ B θ := fun he θ hθ hr => by
      have := hB θ hθ (hr.ext he)
      simp only [sum1] at this; omega
    have hll : ¬ decide ((ansB L).length > 1000000) = true := by
      obtain ⟨M, hM⟩ := hL2.2
      have e1 := congrArg List.length hM
      have e2 : (ansB L).length = L.length := by unfold ansB; rw [(srt_perm _).length_eq, List.length_map]
      simp only [List.length_append] at e1
      simp only [decide_eq_true_eq]; omega
    rw [mgu, if_neg hll]
    simp only [eA, eB, ka, kb, ia, ib]
    split at h
    · rename_i h0
      have h0' : (if (a'.kd == 0) = true then true else b'.kd == 0) = true := by simpa using h0
      rw [if_pos h0']
      exact mgu_w hBB n L ps R L2 h hw hgp hsm w hI (hB1 (Ext.refl _)) hlen
    rename_i h0
    have h0' : ¬ (if (a'.kd == 0) = true then true else b'.kd == 0) = true := by simpa using h0
    rw [if_neg h0']
    split at h
    · rename_i h11
      have h11' : (if (a'.kd == 1) = true then b'.kd == 1 else false) = true := by simpa using h11
      rw [if_pos h11']
      simp only [Bool.and_eq_true, beq_iff_eq] at h11
      obtain ⟨ea, a0⟩ := good_var hd.ga h11.1
      obtain ⟨eb, b0⟩ := good_var hd.gb h11.2
      have hx := hd.fa h11.1
      have hy := hd.fb h11.2
      have fA := sg_free hw a' hd.ga h11.1 hx
      have fB := sg_free hw b' hd.gb h11.2 hy
      unfold vvL at h
      by_cases hid : a'.id = b'.id
      · rw [if_pos hid] at h
        rw [if_pos (by simpa using hid)]
        exact mgu_w hBB n L ps R L2 h hw hgp hsm w hI (hB1 (Ext.refl _)) hlen
      · rw [if_neg hid] at h
        rw [if_neg (by simpa using hid)]
        obtain ⟨⟨w1, w2, _⟩, _⟩ := vv_case hw hx hy a0 b0 hid rfl
        by_cases hlt : b'.id < a'.id
        · rw [if_neg (by omega), if_pos hlt] at h w1 w2
          rw [insB_new hx] at h w1 w2
          rw [if_neg (by simp; omega)]
          have e1 : sg L b' = sg L (.mk 1 b'.id []) := by rw [← eb]
          rw [e1, addB_ans hw w1 hx]
          exact mgu_w hBB n _ ps R L2 h w1 hgp (vv_small hsm (by rw [← eb]; exact fB)) w (hI.ext hw w1 w2 hgp) (hB1 w2) hlen
        · rw [if_pos (by omega), if_neg hlt] at h w1 w2
          rw [insB_new hy] at h w1 w2
          rw [if_pos (by simp; omega)]
          have e1 : sg L a' = sg L (.mk 1 a'.id []) := by rw [← ea]
          rw [e1, addB_ans hw w1 hy]
          exact mgu_w hBB n _ ps R L2 h w1 hgp (vv_small hsm (by rw [← ea]; exact fA)) w (hI.ext hw w1 w2 hgp) (hB1 w2) hlen
    rename_i h11
    have h11' : ¬ (if (a'.kd == 1) = true then b'.kd == 1 else false) = true := by simpa using h11
    rw [if_neg h11']
    have bindv : ∀ (v t : Ty), v.kd = 1 → good v → lk L v.id = none → good t → ¬ t.kd = 1 → (∃ r1 L1, Bnd L v.id t r1 L1 ∧ (if r1 = true then WR n L1 ps R L2 else R = false ∧ L2 = L1)) →
        ∃ o, (if decide (nds (sg L t) > 1000000000) = true then none else if (vo (sg L t)).any (fun x => x == v.id) = true then some none
          else if bigB 100000000000000 (addB (ansB L) v.id (sg L t)) = true then none
          else if bigB 20000 (addB (ansB L) v.id (sg L t)) = true then some none else mgu n w (addB (ansB L) v.id (sg L t))) = some o ∧ Good4 o R L2 := by
      intro v t hv gv hl gt ht ⟨r1, L1, hBd, h⟩
      obtain ⟨s1, s2⟩ := bnd_spec hw hl gt hBd
      rw [if_neg (by have := small_nds hsm gt; simp only [decide_eq_true_eq]; omega), vo_occ (sg_wf hw t gt.1)]
      cases r1 with
      | false =>
        rw [if_neg (by decide)] at h
        rw [(s1 rfl).2, if_pos rfl]
        exact ⟨none, rfl, fun s e => (by cases e), fun _ => .inl h.1⟩
      | true =>
        rw [if_pos rfl] at h
        obtain ⟨rfl, ho⟩ := s2 rfl
        obtain ⟨⟨w1, w2, _⟩, _⟩ := bind_case hw hl (good_var gv hv).2 gt ht hBd
        rw [ho, if_neg (by decide), addB_ans hw w1 hl, not_huge hw hsm w1, if_neg (by decide)]
        cases hb : bigB 20000 (ansB (L ++ [(v.id, t)])) with
        | true =>
          rw [if_pos rfl]
          exact ⟨none, rfl, fun s e => (by cases e), fun _ => .inr (huge_ext w1 hL2.1 (wr_ext n _ ps R L2 h w1 hgp).2 hb)⟩
        | false =>
          rw [if_neg (by decide)]
          exact mgu_w hBB n _ ps R L2 h w1 hgp (small_of w1 hb) w (hI.ext hw w1 w2 hgp) (hB1 w2) hlen
    split at h
    · rename_i h1
      have h1' : a'.kd = 1 := by simpa using h1
      have h1b : ¬ b'.kd = 1 := fun e => h11 (by simp [h1', e])
      rw [if_neg (by simpa using h1b), if_pos h1]
      exact bindv a' b' h1' hd.ga (hd.fa h1') hd.gb h1b h
    rename_i h1
    have h1a : ¬ a'.kd = 1 := by simpa using h1
    split at h
    · rename_i h1b
      have h1b' : b'.kd = 1 := by simpa using h1b
      rw [if_pos h1b]
      exact bindv b' a' h1b' hd.gb (hd.fb h1b') hd.ga h1a h
    rename_i h1b
    have h1b' : ¬ b'.kd = 1 := by simpa using h1b
    rw [if_neg h1b, if_neg h1]
    have lA : (sg L a').args = a'.args.map (sg L) := by rw [sg_app L a' h1a]; rfl
    have lB : (sg L b').args = b'.args.map (sg L) := by rw [sg_app L b' h1b']; rfl
    rw [lA, lB, List.length_map, List.length_map]
    split at h
    · rename_i hm
      have hm' : (if (a'.kd != b'.kd) = true then true else if (a'.id != b'.id) = true then true else ((a'.args.length : Int) != (b'.args.length : Int))) = true := by
        by_cases e1 : a'.kd = b'.kd
        · by_cases e2 : a'.id = b'.id
          · have e3 : a'.args.length ≠ b'.args.length := fun e3 => by simp [e1, e2, e3] at hm
            have e4 : ¬ (a'.args.length : Int) = (b'.args.length : Int) := by omega
            simp [e1, e2, e4]
          · simp [e2]
        · simp [e1]
      rw [if_pos hm']
      exact ⟨none, rfl, fun s e => (by cases e), fun _ => .inl h.1⟩
    · rename_i hm
      simp only [Bool.or_eq_true, bne_iff_ne, ne_eq, not_or, Decidable.not_not] at hm
      obtain ⟨⟨m1, m2⟩, m3⟩ := hm
      have hm' : ¬ (if (a'.kd != b'.kd) = true then true else if (a'.id != b'.id) = true then true else ((a'.args.length : Int) != (b'.args.length : Int))) = true := by
        simp [m1, m2, m3]
      rw [if_neg hm']
      have c1 := hB (sg L) (self_hom L) (self_resp hw)
      have c2 := hBB L hw hsm
      have c3 := len_sum (sg L) ps
      have c4 := hI.len
      have c5 := good_len hd.ga
      simp only [sum1] at c1
      rw [if_neg (by simp; omega)]
      refine mgu_w hBB n L _ R L2 h hw (goodP_zip (fun c hc => good_mem hd.ga hc) (fun c hc => good_mem hd.gb hc) hgp) hsm _ (hI.zip hw a'.args b'.args (fun c hc => good_mem hd.ga hc) fun c hc => good_mem hd.gb hc) (fun θ hθ hr => ?_) hlen
      obtain ⟨na, ha⟩ := ha
      have r1 := hd_resp hw hr na a a' (hg (a, b) (by simp)).1 ha
      have r2 := hB θ hθ hr
      rw [sum1_app, sum1_zip _ _ _ m3]
      simp only [sum1] at r2
      rw [← r1, hθ a' h1a] at r2
      simp only [nds] at r2
      omega
theorem its_self (L : SB) : ∀ es : List Eqn, goodQ es → Its L es (prs es)
  | [], _ => .nil
  | e :: es, h => .cons ⟨(h e (by simp)).1.1, (h e (by simp)).2.1, rfl, rfl⟩ (its_self L es fun c hc => h c (by simp [hc]))
theorem sum_small {L : SB} (hw : WF L) (hs : Small L) : ∀ es : List Eqn, goodQ es → sum1 (sg L) (prs es) ≤ 2000000 * es.length
  | [], _ => by simp [prs, sum1]
  | e :: es, h => by
    have h1 := small_nds hs (h e (by simp)).1
    have h2 := sum_small hw hs es fun c hc => h c (by simp [hc])
    simp only [prs, List.map_cons, sum1, List.length_cons] at h2 ⊢
    omega
/-- what the reference answers, and what Unify answers -/
theorem ref_ans {es : List Eqn} {bs : List Bd} {ok : Bool} (h : UAns es bs ok) (h1 : es.length ≤ 10) (h2 : es.any badQ = false) :
    ∃ n o, mgu n es [] = some o ∧ (∀ s, o = some s → ok = s.all (fun b => limT b.t) ∧ (ok = true → bs = s)) ∧ (o = none → ok = false) := by
  have hg := bad_good h2
  obtain ⟨m, R, L2, hW⟩ := w_run hg
  have hw2 := (wr_ext m [] _ R L2 hW .nil (goodP_prs hg)).1
  have hs0 : Small [] := fun v h0 => by simp [sg_nil, nds, ndsL]
  obtain ⟨o, e, g1, g2⟩ := mgu_w (B := fun θ => sum1 θ (prs es)) (fun L hw hs => by have := sum_small hw hs es hg; omega) m [] (prs es) R L2 hW .nil (goodP_prs hg) hs0 es (its_self [] es hg) (fun θ _ _ => Nat.le_refl _) (w_len hg h1 hW)
  obtain ⟨a1, a2⟩ := ans_w h (by omega) h2 hW
  refine ⟨m, o, e, fun s hs => ?_, fun ho => ?_⟩
  · obtain ⟨hR, rfl⟩ := g1 s hs
    rw [hR, Bool.true_and] at a1
    refine ⟨?_, a2⟩
    rw [a1]
    unfold allLim
    cases hc : (L2.all fun x => limT (sg L2 x.2)) with
    | true =>
      symm
      rw [List.all_eq_true] at hc ⊢
      intro b hb
      obtain ⟨x, hx, rfl⟩ := ansB_mem.1 hb
      exact hc x hx
    | false =>
      symm
      rw [List.all_eq_false] at hc ⊢
      obtain ⟨x, hx, hn⟩ := hc
      exact ⟨⟨x.1, sg L2 x.2⟩, ansB_mem.2 ⟨x, hx, rfl⟩, hn⟩
  · rcases g2 ho with hR | ⟨x, hx, hn⟩
    · rw [a1, hR]; rfl
    · have : allLim L2 (sg L2) = false := by
        unfold allLim
        rw [List.all_eq_false]
        refine ⟨x, hx, fun hl => ?_⟩
        have := (lim_le hl).1
        omega
      rw [a1, this, Bool.and_false]
end Go.Proofs.Ytiediojibljpiaa
