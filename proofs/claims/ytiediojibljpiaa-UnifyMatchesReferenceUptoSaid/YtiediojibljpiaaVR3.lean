/- R3: joined from ZR3. -/
import Derived.Test.YtiediojibljpiaaVFnU
import Derived.Test.YtiediojibljpiaaVR2
import Derived.Test.YtiediojibljpiaaVA5
/- The reference: what it reckons, and that it answers as the work list. -/
set_option maxRecDepth 10000
set_option linter.unusedSimpArgs false
set_option linter.unusedVariables false
namespace Go.Proofs.Ytiediojibljpiaa
open Go Go.Ab
def addL (x : Bd) : List Bd → Bool → List Bd
  | [], ins => if ins then [] else [x]
  | b :: bs, ins => if (if !ins then decide (b.v > x.v) else false) then x :: ⟨b.v, subT [x] b.t⟩ :: addL x bs true else ⟨b.v, subT [x] b.t⟩ :: addL x bs ins
def addB (s : List Bd) (v : Int) (t : Ty) : List Bd := addL ⟨v, t⟩ s false
theorem addL_true (x : Bd) : ∀ s : List Bd, addL x s true = s.map fun b => ⟨b.v, subT [x] b.t⟩
  | [] => rfl
  | b :: bs => by simp only [addL, Bool.not_true, Bool.false_eq_true, if_false, addL_true x bs, List.map_cons]
theorem addL_perm (x : Bd) : ∀ s : List Bd, (addL x s false).Perm (x :: s.map fun b => ⟨b.v, subT [x] b.t⟩)
  | [] => .refl _
  | b :: bs => by
    simp only [addL, Bool.not_false, if_true]
    split
    · rw [addL_true]; exact .refl _
    · exact ((addL_perm x bs).cons _).trans (.swap _ _ _)
theorem addL_sorted {x : Bd} : ∀ {s : List Bd}, s.Pairwise (fun a b => a.v < b.v) → (∀ b ∈ s, ¬ b.v = x.v) → (addL x s false).Pairwise (fun a b => a.v < b.v)
  | [], _, _ => by simp [addL]
  | b :: bs, h, hn => by
    rw [List.pairwise_cons] at h
    have hb := hn b (by simp)
    have hm : ∀ y ∈ bs.map (fun b => (⟨b.v, subT [x] b.t⟩ : Bd)), b.v < y.v := fun y hy => by
      obtain ⟨z, hz, rfl⟩ := List.mem_map.1 hy
      exact h.1 z hz
    simp only [addL, Bool.not_false, if_true]
    split
    · rename_i hgt
      have hgt := of_decide_eq_true hgt
      rw [addL_true, List.pairwise_cons, List.pairwise_cons, List.pairwise_map]
      refine ⟨fun y hy => ?_, hm, h.2⟩
      rcases List.mem_cons.1 hy with rfl | hy
      · exact hgt
      · exact Int.lt_trans hgt (hm y hy)
    · rename_i hgt
      have hgt : b.v ≤ x.v := by simpa using hgt
      rw [List.pairwise_cons]
      refine ⟨fun y hy => ?_, addL_sorted h.2 fun c hc => hn c (by simp [hc])⟩
      rcases List.mem_cons.1 ((addL_perm x bs).subset hy) with e | hy
      · rw [e]; show b.v < x.v; omega
      · exact hm y hy
theorem addB_ans {L : SB} (hw : WF L) {v : Int} {t : Ty} (hw1 : WF (L ++ [(v, t)])) (hv : lk L v = none) : addB (ansB L) v (sg L t) = ansB (L ++ [(v, t)]) := by
  have hs := addL_sorted (x := ⟨v, sg L t⟩) (ansB_sorted hw) fun b hb => by
    obtain ⟨x, hx, rfl⟩ := ansB_mem.1 hb
    exact lk_none hv x hx
  have hg := (wf_dec hw1 v t (by rw [lk_snoc, hv]; simp)).2.2
  have ht : sg (L ++ [(v, t)]) t = sg L t := by
    have h1 := sg_bound hw1 (.mk 1 v []) t rfl (by simp only [Ty.id]; rw [lk_snoc, hv]; simp)
    rw [← h1.1, sg_snoc]
    by_cases h0 : 0 ≤ v
    · rw [sg_free hw (.mk 1 v []) (by exact ⟨by simp [wfT, nwf, wfTL, h0], by simp [nds, ndsL]⟩) rfl hv, subT_hit v _ (.mk 1 v []) rfl rfl]
    · exact absurd ((wf_dec hw1 v t (by rw [lk_snoc, hv]; simp)).2.1) h0
  have hp : (addB (ansB L) v (sg L t)).Perm (ansB (L ++ [(v, t)])) := by
    refine (addL_perm _ _).trans ?_
    have h1 : ((ansB L).map fun b => (⟨b.v, subT [⟨v, sg L t⟩] b.t⟩ : Bd)).Perm ((L.map fun x => (⟨x.1, sg L x.2⟩ : Bd)).map fun b => ⟨b.v, subT [⟨v, sg L t⟩] b.t⟩) := (srt_perm _).map _
    refine (h1.cons _).trans ?_
    unfold ansB
    refine List.Perm.trans ?_ (srt_perm _).symm
    rw [List.map_append, List.map_map]
    simp only [List.map_cons, List.map_nil, ht]
    have h2 : (List.map ((fun b : Bd => (⟨b.v, subT [⟨v, sg L t⟩] b.t⟩ : Bd)) ∘ fun x => ⟨x.1, sg L x.2⟩) L) = L.map fun x => (⟨x.1, sg (L ++ [(v, t)]) x.2⟩ : Bd) := List.map_congr_left fun x _ => by simp only [Function.comp, sg_snoc]
    rw [h2]
    exact (List.perm_append_singleton _ _).symm
  exact sorted_eq hp (hs.imp fun h => Int.le_of_lt h) (ansB_sorted hw1)
def zipE : List Ty → List Ty → List Eqn
  | a :: as', b :: bs' => ⟨a, b⟩ :: zipE as' bs'
  | _, _ => []
def bigB (n : Nat) (s : List Bd) : Bool := s.any fun b => decide (nds b.t > n)
def mgu : Nat → List Eqn → List Bd → Option (Option (List Bd))
  | 0, _, _ => none
  | _ + 1, [], s => if bigB 100000000000000 s then none else some (some s)
  | n + 1, e :: w, s =>
    if decide (s.length > 1000000) then none
    else if (if (subT s e.l).kd == 0 then true else (subT s e.r).kd == 0) then mgu n w s
    else if (if (subT s e.l).kd == 1 then (subT s e.r).kd == 1 else false) then
      (if (subT s e.l).id == (subT s e.r).id then mgu n w s
       else if decide ((subT s e.l).id < (subT s e.r).id) then mgu n w (addB s (subT s e.r).id (subT s e.l)) else mgu n w (addB s (subT s e.l).id (subT s e.r)))
    else if (subT s e.r).kd == 1 then
      (if decide (nds (subT s e.l) > 1000000000) then none else if (vo (subT s e.l)).any (fun x => x == (subT s e.r).id) then some none
       else if bigB 100000000000000 (addB s (subT s e.r).id (subT s e.l)) then none else if bigB 20000 (addB s (subT s e.r).id (subT s e.l)) then some none else mgu n w (addB s (subT s e.r).id (subT s e.l)))
    else if (subT s e.l).kd == 1 then
      (if decide (nds (subT s e.r) > 1000000000) then none else if (vo (subT s e.r)).any (fun x => x == (subT s e.l).id) then some none
       else if bigB 100000000000000 (addB s (subT s e.l).id (subT s e.r)) then none else if bigB 20000 (addB s (subT s e.l).id (subT s e.r)) then some none else mgu n w (addB s (subT s e.l).id (subT s e.r)))
    else if (if (subT s e.l).kd != (subT s e.r).kd then true else if (subT s e.l).id != (subT s e.r).id then true else ((subT s e.l).args.length : Int) != ((subT s e.r).args.length : Int)) then some none
    else if decide ((subT s e.l).args.length + w.length > 1000000000) then none
    else mgu n (zipE (subT s e.l).args (subT s e.r).args ++ w) s
mutual
theorem nds_homM {θ : Ty → Ty} (hθ : Hom θ) {M : Nat} (hM : 1 ≤ M) (hb : ∀ v, 0 ≤ v → nds (θ (.mk 1 v [])) ≤ M) : ∀ t : Ty, wfT t = true → nds (θ t) ≤ nds t * M
  | .mk k id ss, h => by
    by_cases hk : k = 1
    · obtain ⟨e, h0⟩ := wfT_var h (by simpa [Ty.kd] using hk)
      simp only [Ty.id] at e h0
      rw [e]
      have := hb id h0
      simp only [nds, ndsL]; omega
    · rw [hθ _ (by simpa [Ty.kd] using hk)]
      have := nds_homML hθ hM hb ss (wfT_mem h)
      simp only [nds, Ty.args]
      rw [Nat.add_mul]; omega
theorem nds_homML {θ : Ty → Ty} (hθ : Hom θ) {M : Nat} (hM : 1 ≤ M) (hb : ∀ v, 0 ≤ v → nds (θ (.mk 1 v [])) ≤ M) : ∀ ts : List Ty, (∀ a ∈ ts, wfT a = true) → ndsL (ts.map θ) ≤ ndsL ts * M
  | [], _ => by simp [ndsL]
  | t :: ts, h => by
    have h1 := nds_homM hθ hM hb t (h t (by simp))
    have h2 := nds_homML hθ hM hb ts fun a ha => h a (by simp [ha])
    simp only [List.map_cons, ndsL]
    rw [Nat.add_mul]; omega
end
/-- the bindings' types are not too large -/
def Small (L : SB) : Prop := ∀ v, 0 ≤ v → nds (sg L (.mk 1 v [])) ≤ 20000
theorem small_nds {L : SB} (h : Small L) {t : Ty} (hg : good t) : nds (sg L t) ≤ 2000000 := by
  have := nds_homM (self_hom L) (by omega) h t hg.1
  have := hg.2
  omega
theorem vo_occ {t : Ty} (h : wfT t = true) (v : Int) : (vo t).any (fun x => x == v) = occ v t := by
  rw [← fvs_vo h, ← any_sym]; exact any_fvs v t
/-- an item of the reference and one of the program -/
def It (L : SB) (x : Eqn) (ab : Ty × Ty) : Prop := wfT x.l = true ∧ wfT x.r = true ∧ sg L x.l = sg L ab.1 ∧ sg L x.r = sg L ab.2
inductive Its (L : SB) : List Eqn → Prs → Prop
  | nil : Its L [] []
  | cons {x : Eqn} {ab : Ty × Ty} {w : List Eqn} {ps : Prs} : It L x ab → Its L w ps → Its L (x :: w) (ab :: ps)
theorem Its.ext {L L' : SB} (hw : WF L) (hw' : WF L') (he : Ext L L') {w : List Eqn} {ps : Prs} (hg : goodP ps) (h : Its L w ps) : Its L' w ps := by
  have hr := (self_resp hw').ext he
  have key : ∀ {x a : Ty}, wfT x = true → wfT a = true → sg L x = sg L a → sg L' x = sg L' a := fun hx ha e => by
    rw [← hom_sg (self_hom L') hw hr _ hx, e, hom_sg (self_hom L') hw hr _ ha]
  induction h with
  | nil => exact .nil
  | @cons x ab w ps hi _ ih =>
    obtain ⟨a, b, c, d⟩ := hi
    have g := hg ab (by simp)
    exact .cons ⟨a, b, key a g.1.1 c, key b g.2.1 d⟩ (ih fun y hy => hg y (by simp [hy]))
theorem Its.len {L : SB} {w : List Eqn} {ps : Prs} (h : Its L w ps) : w.length = ps.length := by
  induction h with
  | nil => rfl
  | cons _ _ ih => simp [ih]
theorem Its.zip {L : SB} (hw : WF L) {w : List Eqn} {ps : Prs} (h : Its L w ps) : ∀ (ta tb : List Ty), (∀ a ∈ ta, good a) → (∀ b ∈ tb, good b) → Its L (zipE (ta.map (sg L)) (tb.map (sg L)) ++ w) (ta.zip tb ++ ps)
  | [], tb, _, _ => by simpa [zipE] using h
  | a :: ta, [], _, _ => by simpa [zipE] using h
  | a :: ta, b :: tb, ga, gb => by
    simp only [List.map_cons, zipE, List.zip_cons_cons, List.cons_append]
    have ha := ga a (by simp)
    have hb := gb b (by simp)
    exact .cons ⟨sg_wf hw _ ha.1, sg_wf hw _ hb.1, hom_sg (self_hom L) hw (self_resp hw) _ ha.1, hom_sg (self_hom L) hw (self_resp hw) _ hb.1⟩ (Its.zip hw h ta tb (fun c hc => ga c (by simp [hc])) fun c hc => gb c (by simp [hc]))
theorem len_sum (θ : Ty → Ty) : ∀ ps : Prs, ps.length ≤ sum1 θ ps
  | [] => Nat.le_refl _
  | x :: ps => by have := len_sum θ ps; have := nds_pos (θ x.1); simp only [List.length_cons, sum1]; omega
end Go.Proofs.Ytiediojibljpiaa
