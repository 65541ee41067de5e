/- Q17: joined from Q17. -/
import Derived.Test.YtbdoblgofddhdaaFnR
import Derived.Test.YtbdoblgofddhdaaQ16
/- Exhaustiveness: has every domain a value? -/
set_option maxRecDepth 10000
set_option linter.unusedSimpArgs false
set_option linter.unusedVariables false
namespace Go.Proofs.Ytbdoblgofddhdaa
open Go Go.Ab
-- vwT vwW
def cBo (x : Bool) : List V := [.pv (bb x)]
theorem renL_bo {ρ : Nat → Nat} (xs : List Bool) : (xs.map cBo).map (V.renL ρ) = xs.map cBo := by
  rw [List.map_map]; exact List.map_congr_left fun p _ => rfl
theorem allL_bo {S : Nat → Prop} (xs : List Bool) : allL S (xs.map cBo) = True := by
  simp only [allL_iff, eq_iff_iff, iff_true]
  intro cs hcs
  obtain ⟨p, _, rfl⟩ := List.mem_map.1 hcs
  simp [cBo, V.bdL, V.bd]
theorem set_bo {Bs : List Bool} {i : Nat} {x : Bool} : (Bs.map cBo).set i [.pv (bb x)] = (Bs.set i x).map cBo := by rw [List.map_set]; rfl
theorem get_bo {Bs : List Bool} {i : Nat} (h : i < Bs.length) : (Bs.map cBo)[i]? = some (cBo (Bs.getD i false)) := by
  rw [List.getElem?_map, List.getElem?_eq_getElem h, List.getD_eq_getElem?_getD, List.getElem?_eq_getElem h]; rfl
theorem rep_bo (n : Nat) : List.replicate n [V.pv (bb false)] = (List.replicate n false).map cBo := by rw [List.map_replicate]; rfl
def fAll (b : List Bool) : List Int → Bool → Bool
  | [], a => a
  | f :: fs, a => fAll b fs (if a then b.getD f.toNat false else false)
def inhV (i : Nat) : List Vr → List Bool → List Bool
  | [], b => b
  | v :: vs, b => inhV i vs (b.set i (if b.getD i false then true else fAll b v.fs true))
def inhD : List Dm → Nat → List Bool → List Bool
  | [], _, b => b
  | d :: ds, i, b => inhD ds (i + 1) (if !(d.k == 1) then b.set i true else inhV i d.vs b)
def inhN (ds : List Dm) : Nat → List Bool → List Bool
  | 0, b => b
  | n + 1, b => inhN ds n (inhD ds 0 b)
def allT : List Bool → Bool
  | [] => true
  | b :: bs => if b then allT bs else false
def inh (ds : List Dm) : Bool := allT (inhN ds ds.length (List.replicate ds.length false))
theorem inhV_len (i : Nat) : ∀ (vs : List Vr) (b : List Bool), (inhV i vs b).length = b.length
  | [], b => rfl
  | v :: vs, b => by simp [inhV, inhV_len i vs]
theorem inhD_len : ∀ (ds : List Dm) (i : Nat) (b : List Bool), (inhD ds i b).length = b.length
  | [], i, b => rfl
  | d :: ds, i, b => by
    simp only [inhD, inhD_len ds]
    split
    · simp
    · exact inhV_len i _ _
theorem inhN_len (ds : List Dm) : ∀ (n : Nat) (b : List Bool), (inhN ds n b).length = b.length
  | 0, b => rfl
  | n + 1, b => by rw [inhN, inhN_len ds n, inhD_len]
theorem fAll_true {b : List Bool} : ∀ {fs : List Int} {a : Bool}, fAll b fs a = true → a = true ∧ ∀ f ∈ fs, b.getD f.toNat false = true
  | [], a, h => ⟨h, by simp⟩
  | f :: fs, a, h => by
    simp only [fAll] at h
    obtain ⟨h1, h2⟩ := fAll_true h
    cases a with
    | false => simp at h1
    | true =>
      refine ⟨rfl, fun g hg => ?_⟩
      rcases List.mem_cons.1 hg with rfl | hg
      · simpa using h1
      · exact h2 g hg
def GoodB (ds : List Dm) (b : List Bool) : Prop := ∀ i : Nat, b.getD i false = true → ∃ v, VT ds v (i : Int)
theorem good_set {ds : List Dm} {b : List Bool} {i : Nat} {x : Bool} (hg : GoodB ds b) (hx : x = true → ∃ v, VT ds v (i : Int)) : GoodB ds (b.set i x) := by
  intro j hj
  by_cases hij : i = j
  · subst hij
    by_cases hl : i < b.length
    · refine hx ?_
      simpa [List.getD_eq_getElem?_getD, List.getElem?_set, hl] using hj
    · rw [List.getD_eq_getElem?_getD, List.getElem?_eq_none (by simp; omega)] at hj
      simp at hj
  · refine hg j ?_
    simpa [List.getD_eq_getElem?_getD, List.getElem?_set, hij] using hj
theorem fs_val {ds : List Dm} {b : List Bool} (hg : GoodB ds b) : ∀ {fs : List Int}, (∀ f ∈ fs, cOk ds f) → (∀ f ∈ fs, b.getD f.toNat false = true) → ∃ az, VTL ds az fs
  | [], _, _ => ⟨[], .nil⟩
  | f :: fs, hc, hb => by
    obtain ⟨az, haz⟩ := fs_val hg (fs := fs) (fun g h => hc g (by simp [h])) (fun g h => hb g (by simp [h]))
    obtain ⟨v, hv⟩ := hg _ (hb f (by simp))
    rw [Int.toNat_of_nonneg (hc f (by simp)).1] at hv
    exact ⟨v :: az, .cons _ _ _ _ hv haz⟩
theorem inhV_good {ds : List Dm} (hD : DsOk ds) (hF : FsOk ds) {i : Nat} {d : Dm} (hd : ds[i]? = some d) (hk : d.k = 1) : ∀ (vs : List Vr) (b : List Bool), (∀ v ∈ vs, v ∈ d.vs) → GoodB ds b → GoodB ds (inhV i vs b)
  | [], b, _, hg => hg
  | v :: vs, b, hm, hg => by
    simp only [inhV]
    refine inhV_good hD hF hd hk vs _ (fun w hw => hm w (by simp [hw])) (good_set hg fun h => ?_)
    have hmem : d ∈ ds := List.mem_of_getElem? hd
    have hv := hm v (by simp)
    cases hbi : b.getD i false with
    | true => exact hg i hbi
    | false =>
      rw [hbi] at h
      simp only [Bool.false_eq_true, if_false] at h
      obtain ⟨az, haz⟩ := fs_val hg (hF d hmem v hv) (fAll_true h).2
      exact ⟨_, VT.vr (i : Int) d v az (by simpa using hd) hk (hD.uniq d hmem v hv) haz⟩
theorem inhD_good {ds : List Dm} (hD : DsOk ds) (hF : FsOk ds) : ∀ (rest pre : List Dm) (b : List Bool), pre ++ rest = ds → GoodB ds b → GoodB ds (inhD rest pre.length b)
  | [], pre, b, _, hg => hg
  | d :: rest, pre, b, hp, hg => by
    have hd : ds[pre.length]? = some d := by rw [← hp]; simp
    have hmem : d ∈ ds := List.mem_of_getElem? hd
    have hd' : ds[((pre.length : Nat) : Int).toNat]? = some d := by simpa using hd
    simp only [inhD]
    have ih := inhD_good hD hF rest (pre ++ [d]) (if !(d.k == 1) then b.set pre.length true else inhV pre.length d.vs b) (by simp [hp]) ?_
    · simpa using ih
    · by_cases hk : d.k = 1
      · rw [if_neg (by simp [hk])]
        exact inhV_good hD hF hd hk _ _ (fun _ h => h) hg
      · rw [if_pos (by simp [hk])]
        refine good_set hg fun _ => ?_
        rcases hD.kinds d hmem with h | h | h | h
        · exact ⟨_, VT.any _ d hd' h⟩
        · exact absurd h hk
        · exact ⟨_, VT.int _ d 0 hd' h⟩
        · exact ⟨_, VT.bool _ d 0 hd' h (.inl rfl)⟩
theorem inhN_good {ds : List Dm} (hD : DsOk ds) (hF : FsOk ds) : ∀ (n : Nat) (b : List Bool), GoodB ds b → GoodB ds (inhN ds n b)
  | 0, b, hg => hg
  | n + 1, b, hg => by
    rw [inhN]
    exact inhN_good hD hF n _ (inhD_good hD hF ds [] b rfl hg)
theorem allT_all : ∀ {b : List Bool}, allT b = true → ∀ i, i < b.length → b.getD i false = true
  | [], _, i, hi => by simp at hi
  | x :: b, h, i, hi => by
    simp only [allT] at h
    cases x with
    | false => simp at h
    | true =>
      cases i with
      | zero => rfl
      | succ i => simpa using allT_all (b := b) (by simpa using h) i (by simpa using hi)
theorem inh_Inh {ds : List Dm} (hD : DsOk ds) (hF : FsOk ds) (h : inh ds = true) : Inh ds := by
  intro c hc
  have hg := inhN_good hD hF ds.length (List.replicate ds.length false) (by
    intro i hi
    rw [List.getD_eq_getElem?_getD, List.getElem?_replicate] at hi
    split at hi <;> simp at hi)
  obtain ⟨v, hv⟩ := hg c.toNat (allT_all h _ (by rw [inhN_len]; simpa using hc.2))
  rw [Int.toNat_of_nonneg hc.1] at hv
  exact ⟨v, hv⟩
set_option maxHeartbeats 4000000 in
theorem aiF {ds : List Dm} {d : Dm} {i m q : Nat} {v : Vr} {b : List Bool} (hb : b.length = ds.length) (hF : ∀ f ∈ v.fs, cOk ds f) (hl : v.fs.length ≤ 1099511627776) {K : Fr → Hp → Prop} {P : Exit → Fr → Hp → Prop}
    (hK : ∀ x1 x2 x3 x4, K [(44, x1), (43, x2), (42, x3), (41, x4), (8, .pv (bb (fAll b v.fs true))), (36, .pv (ii q)), (35, .pv (ii d.vs.length)), (34, .pv (.list 2 (encVr d.vs))), (22, .pv (ii i)), (21, .pv (ii ds.length)), (20, .pv (.list 2 (encDm ds))), (18, .pv (ii m)), (17, .pv (ii ds.length)), (4, .pv (ii i)), (3, .row 0 ds.length true), (0, .pv (.list 2 (encDm ds)))] [some ⟨false, 4, 1, b.map cBo, none⟩]) :
    ∀ (rest pre : List Int) (a : Bool), pre ++ rest = v.fs → fAll b v.fs true = fAll b rest a → loopN (awp Try.prog ac45_l0) (catch_ 6 (thn K P)) (rest.length + 1)
      [(43, .pv (ii pre.length)), (42, .pv (ii v.fs.length)), (41, .pv (.list 1 (encI v.fs))), (8, .pv (bb a)), (36, .pv (ii q)), (35, .pv (ii d.vs.length)), (34, .pv (.list 2 (encVr d.vs))), (22, .pv (ii i)), (21, .pv (ii ds.length)), (20, .pv (.list 2 (encDm ds))), (18, .pv (ii m)), (17, .pv (ii ds.length)), (4, .pv (ii i)), (3, .row 0 ds.length true), (0, .pv (.list 2 (encDm ds)))] [some ⟨false, 4, 1, b.map cBo, none⟩] := by
  intro rest
  induction rest with
  | nil =>
    intro pre a hpre hi
    have hpre : pre = v.fs := by simpa using hpre
    rw [← hpre]
    refine loopN_k fun K1 hK1 => ?_
    unfold ac45_l0
    (repeat' (first | ((with_reducible first | refine aops_cons' fun C hC => ?_ | refine aopsD_cons' fun C hC => ?_ | intro C hC); simp only [go_sem, lt_end]; ((with_reducible first | refine finA hC ?_ | refine finD hC ?_); clear hC C)) | (with_reducible first | refine awp_seq_k fun K hK => ?_ | refine awp_reg_k fun K hK => ?_ | refine awp_dreg_k fun K hK => ?_ | (refine aops_nil ?_; refine hK _ _ ?_; try clear hK K) | (refine aopsD_nil ?_; refine hK _ _ _ ?_ ?_; (focus kernel_rfl); try clear hK K) | (refine thn_normal ?_; refine hK _ _ ?_; try clear hK K) | refine catch_normal ?_ | refine awp_skip_k ?_ | refine awp_ret_k ?_ | refine awp_exit_k ?_ | refine awp_block_k ?_ | (refine thn_exit ?_; try clear hK K) | (refine thn_ret ?_; try clear hK K) | refine catch_ret ?_ | refine catch_exit ?_ | (refine catch_other ?_ ?_; focus decide)) | ((with_reducible first | apply aops_guard' | apply aopsD_guard' | apply awp_cond_g); focus (simp only [go_sem, lt_end]; exact rfl)) | (with_reducible first | refine gk_tt ?_ | refine gk_ff ?_ | refine ck_t ?_ | refine ck_f ?_) | ((with_reducible first | refine gk_tf ?_ | refine gk_ft ?_ | refine gk_u ?_ | refine gk_u' ?_); first | (intro _ e; (first | rw [put_some] at e | rw [put_none] at e); subst e) | (intro _ _ e e'; (first | rw [put_some] at e | rw [put_none] at e); subst e; subst e'))))
    refine thn_normal ?_
    rw [hi] at hK
    exact hK _ _ _ _
  | cons f rest ih =>
    intro pre a hpre hi
    have hlt : decide ((pre.length : Int) < (v.fs.length : Int)) = true := by rw [← hpre]; exact lt_app _ _ _
    have hat : (encI v.fs)[pre.length]? = some (ii f) := by rw [← hpre]; exact encI_at _ _ _
    have hw := wrapS (n := pre.length) (by have := congrArg List.length hpre; simp at this; omega)
    have hc := hF f (by rw [← hpre]; simp)
    obtain ⟨j, rfl⟩ := Int.eq_ofNat_of_zero_le hc.1
    have hj : j < b.length := by have := hc.2; simp only [Int.toNat_natCast] at this; omega
    have hj2 : j < ds.length := by omega
    have hg := get_bo hj
    simp only [fAll, Int.toNat_natCast] at hi
    refine loopN_k fun K1 hK1 => ?_
    unfold ac45_l0
    cases a with
    | true =>
      simp only [if_true] at hi
      (repeat' (first | ((with_reducible first | refine aops_cons' fun C hC => ?_ | refine aopsD_cons' fun C hC => ?_ | intro C hC); simp only [go_sem, hlt, hat, hg, hj, hj2, cBo]; ((with_reducible first | refine finA hC ?_ | refine finD hC ?_); clear hC C)) | (with_reducible first | refine awp_seq_k fun K hK => ?_ | refine awp_reg_k fun K hK => ?_ | refine awp_dreg_k fun K hK => ?_ | (refine aops_nil ?_; refine hK _ _ ?_; try clear hK K) | (refine aopsD_nil ?_; refine hK _ _ _ ?_ ?_; (focus kernel_rfl); try clear hK K) | (refine thn_normal ?_; refine hK _ _ ?_; try clear hK K) | refine catch_normal ?_ | refine awp_skip_k ?_ | refine awp_ret_k ?_ | refine awp_exit_k ?_ | refine awp_block_k ?_ | (refine thn_exit ?_; try clear hK K) | (refine thn_ret ?_; try clear hK K) | refine catch_ret ?_ | refine catch_exit ?_ | (refine catch_other ?_ ?_; focus decide)) | ((with_reducible first | apply aops_guard' | apply aopsD_guard' | apply awp_cond_g); focus (simp only [go_sem, hlt, hat, hg, hj, hj2, cBo]; exact rfl)) | (with_reducible first | refine gk_tt ?_ | refine gk_ff ?_ | refine ck_t ?_ | refine ck_f ?_) | ((with_reducible first | refine gk_tf ?_ | refine gk_ft ?_ | refine gk_u ?_ | refine gk_u' ?_); first | (intro _ e; (first | rw [put_some] at e | rw [put_none] at e); subst e) | (intro _ _ e e'; (first | rw [put_some] at e | rw [put_none] at e); subst e; subst e'))))
      refine thn_normal ?_
      refine hK1 _ _ _ _ _ (LeB [0] (by refine ⟨?_, ?_, ?_⟩ <;> simp only [leFr, leFb, leHp, V.ren, V.renL, V.bd, V.bdL, allL, lt, Go.Ab.get, hget, List.map_cons, List.map_nil, List.length_cons, List.length_nil, List.length_append, List.getElem?_cons_zero, List.getElem?_cons_succ, List.getElem?_nil, Option.join_some, Option.join_none, List.getD_cons_zero, List.getD_cons_succ, List.getD_nil, Nat.reduceAdd, Nat.reduceLT, Nat.reduceEqDiff, Nat.zero_add, reduceIte, if_true, if_false, and_true, true_and, renL_vcells, allL_vcells, renL_pv, leBlk_some, eq_self, true_or, or_true, reduceCtorEq, false_or, hw, List.length_append, allL_bo, renL_bo])) (ih (pre ++ [(j : Int)]) _ (by simp [hpre]) hi)
    | false =>
      simp only [Bool.false_eq_true, if_false] at hi
      (repeat' (first | ((with_reducible first | refine aops_cons' fun C hC => ?_ | refine aopsD_cons' fun C hC => ?_ | intro C hC); simp only [go_sem, hlt, hat]; ((with_reducible first | refine finA hC ?_ | refine finD hC ?_); clear hC C)) | (with_reducible first | refine awp_seq_k fun K hK => ?_ | refine awp_reg_k fun K hK => ?_ | refine awp_dreg_k fun K hK => ?_ | (refine aops_nil ?_; refine hK _ _ ?_; try clear hK K) | (refine aopsD_nil ?_; refine hK _ _ _ ?_ ?_; (focus kernel_rfl); try clear hK K) | (refine thn_normal ?_; refine hK _ _ ?_; try clear hK K) | refine catch_normal ?_ | refine awp_skip_k ?_ | refine awp_ret_k ?_ | refine awp_exit_k ?_ | refine awp_block_k ?_ | (refine thn_exit ?_; try clear hK K) | (refine thn_ret ?_; try clear hK K) | refine catch_ret ?_ | refine catch_exit ?_ | (refine catch_other ?_ ?_; focus decide)) | ((with_reducible first | apply aops_guard' | apply aopsD_guard' | apply awp_cond_g); focus (simp only [go_sem, hlt, hat]; exact rfl)) | (with_reducible first | refine gk_tt ?_ | refine gk_ff ?_ | refine ck_t ?_ | refine ck_f ?_) | ((with_reducible first | refine gk_tf ?_ | refine gk_ft ?_ | refine gk_u ?_ | refine gk_u' ?_); first | (intro _ e; (first | rw [put_some] at e | rw [put_none] at e); subst e) | (intro _ _ e e'; (first | rw [put_some] at e | rw [put_none] at e); subst e; subst e'))))
      refine thn_normal ?_
      refine hK1 _ _ _ _ _ (LeB [0] (by refine ⟨?_, ?_, ?_⟩ <;> simp only [leFr, leFb, leHp, V.ren, V.renL, V.bd, V.bdL, allL, lt, Go.Ab.get, hget, List.map_cons, List.map_nil, List.length_cons, List.length_nil, List.length_append, List.getElem?_cons_zero, List.getElem?_cons_succ, List.getElem?_nil, Option.join_some, Option.join_none, List.getD_cons_zero, List.getD_cons_succ, List.getD_nil, Nat.reduceAdd, Nat.reduceLT, Nat.reduceEqDiff, Nat.zero_add, reduceIte, if_true, if_false, and_true, true_and, renL_vcells, allL_vcells, renL_pv, leBlk_some, eq_self, true_or, or_true, reduceCtorEq, false_or, hw, List.length_append, allL_bo, renL_bo])) (ih (pre ++ [(j : Int)]) false (by simp [hpre]) hi)
set_option maxHeartbeats 4000000 in
theorem aiV {ds : List Dm} {d : Dm} {i m : Nat} (hi : i < ds.length) (hF : ∀ v ∈ d.vs, ∀ f ∈ v.fs, cOk ds f) (hl : ∀ v ∈ d.vs, v.fs.length ≤ 1099511627776) (hvl : d.vs.length ≤ 1099511627776) {Q : Exit → Fr → Hp → Prop} {b0 : List Bool}
    (hK0 : ∀ (x1 x2 x3 x4 : V) (b : List Bool), b = inhV i d.vs b0 → Q Exit.normal [(37, x1), (36, x2), (35, x3), (34, x4), (22, .pv (ii i)), (21, .pv (ii ds.length)), (20, .pv (.list 2 (encDm ds))), (18, .pv (ii m)), (17, .pv (ii ds.length)), (4, .pv (ii i)), (3, .row 0 ds.length true), (0, .pv (.list 2 (encDm ds)))] [some ⟨false, 4, 1, b.map cBo, none⟩]) :
    ∀ (rest pre : List Vr) (b : List Bool), b.length = ds.length → pre ++ rest = d.vs → inhV i d.vs b0 = inhV i rest b → loopN (awp Try.prog ac45_l1) (catch_ 4 Q) (rest.length + 1)
      [(36, .pv (ii pre.length)), (35, .pv (ii d.vs.length)), (34, .pv (.list 2 (encVr d.vs))), (22, .pv (ii i)), (21, .pv (ii ds.length)), (20, .pv (.list 2 (encDm ds))), (18, .pv (ii m)), (17, .pv (ii ds.length)), (4, .pv (ii i)), (3, .row 0 ds.length true), (0, .pv (.list 2 (encDm ds)))] [some ⟨false, 4, 1, b.map cBo, none⟩] := by
  intro rest
  induction rest with
  | nil =>
    intro pre b hb hpre he
    have hpre : pre = d.vs := by simpa using hpre
    rw [← hpre]
    refine loopN_k fun K1 hK1 => ?_
    unfold ac45_l1
    (repeat' (first | ((with_reducible first | refine aops_cons' fun C hC => ?_ | refine aopsD_cons' fun C hC => ?_ | intro C hC); simp only [go_sem, lt_end]; ((with_reducible first | refine finA hC ?_ | refine finD hC ?_); clear hC C)) | (with_reducible first | refine awp_seq_k fun K hK => ?_ | refine awp_reg_k fun K hK => ?_ | refine awp_dreg_k fun K hK => ?_ | (refine aops_nil ?_; refine hK _ _ ?_; try clear hK K) | (refine aopsD_nil ?_; refine hK _ _ _ ?_ ?_; (focus kernel_rfl); try clear hK K) | (refine thn_normal ?_; refine hK _ _ ?_; try clear hK K) | refine catch_normal ?_ | refine awp_skip_k ?_ | refine awp_ret_k ?_ | refine awp_exit_k ?_ | refine awp_block_k ?_ | (refine thn_exit ?_; try clear hK K) | (refine thn_ret ?_; try clear hK K) | refine catch_ret ?_ | refine catch_exit ?_ | (refine catch_other ?_ ?_; focus decide)) | ((with_reducible first | apply aops_guard' | apply aopsD_guard' | apply awp_cond_g); focus (simp only [go_sem, lt_end]; exact rfl)) | (with_reducible first | refine gk_tt ?_ | refine gk_ff ?_ | refine ck_t ?_ | refine ck_f ?_) | ((with_reducible first | refine gk_tf ?_ | refine gk_ft ?_ | refine gk_u ?_ | refine gk_u' ?_); first | (intro _ e; (first | rw [put_some] at e | rw [put_none] at e); subst e) | (intro _ _ e e'; (first | rw [put_some] at e | rw [put_none] at e); subst e; subst e'))))
    exact hK0 _ _ _ _ _ (by rw [he]; rfl)
  | cons v rest ih =>
    intro pre b hb hpre he
    have hlt : decide ((pre.length : Int) < (d.vs.length : Int)) = true := by rw [← hpre]; exact lt_app _ _ _
    have hat : (encVr d.vs)[pre.length]? = some v.enc := by rw [← hpre]; exact encVr_at _ _ _
    have hw := wrapS (n := pre.length) (by have := congrArg List.length hpre; simp at this; omega)
    have hv : v ∈ d.vs := by rw [← hpre]; simp
    have hib : i < b.length := by omega
    have hg := get_bo hib
    simp only [inhV] at he
    have hlen : (b.set i (if b.getD i false then true else fAll b v.fs true)).length = ds.length := by simp [hb]
    refine loopN_k fun K1 hK1 => ?_
    unfold ac45_l1
    (repeat' (first | ((with_reducible first | refine aops_cons' fun C hC => ?_ | refine aopsD_cons' fun C hC => ?_ | intro C hC); simp only [go_sem, hlt, hat, pcells_vr, encI_len]; ((with_reducible first | refine finA hC ?_ | refine finD hC ?_); clear hC C)) | (with_reducible first | refine awp_seq_k fun K hK => ?_ | refine awp_reg_k fun K hK => ?_ | refine awp_dreg_k fun K hK => ?_ | (refine aops_nil ?_; refine hK _ _ ?_; try clear hK K) | (refine aopsD_nil ?_; refine hK _ _ _ ?_ ?_; (focus kernel_rfl); try clear hK K) | (refine thn_normal ?_; refine hK _ _ ?_; try clear hK K) | refine catch_normal ?_ | refine awp_skip_k ?_ | refine awp_ret_k ?_ | refine awp_exit_k ?_ | refine awp_block_k ?_ | (refine thn_exit ?_; try clear hK K) | (refine thn_ret ?_; try clear hK K) | refine catch_ret ?_ | refine catch_exit ?_ | (refine catch_other ?_ ?_; focus decide)) | ((with_reducible first | apply aops_guard' | apply aopsD_guard' | apply awp_cond_g); focus (simp only [go_sem, hlt, hat, pcells_vr, encI_len]; exact rfl)) | (with_reducible first | refine gk_tt ?_ | refine gk_ff ?_ | refine ck_t ?_ | refine ck_f ?_) | ((with_reducible first | refine gk_tf ?_ | refine gk_ft ?_ | refine gk_u ?_ | refine gk_u' ?_); first | (intro _ e; (first | rw [put_some] at e | rw [put_none] at e); subst e) | (intro _ _ e e'; (first | rw [put_some] at e | rw [put_none] at e); subst e; subst e'))))
    refine awp_loop_k _ (LeB [0] (by refine ⟨?_, ?_, ?_⟩ <;> simp only [leFr, leFb, leHp, V.ren, V.renL, V.bd, V.bdL, allL, lt, Go.Ab.get, hget, List.map_cons, List.map_nil, List.length_cons, List.length_nil, List.length_append, List.getElem?_cons_zero, List.getElem?_cons_succ, List.getElem?_nil, Option.join_some, Option.join_none, List.getD_cons_zero, List.getD_cons_succ, List.getD_nil, Nat.reduceAdd, Nat.reduceLT, Nat.reduceEqDiff, Nat.zero_add, reduceIte, if_true, if_false, and_true, true_and, renL_vcells, allL_vcells, renL_pv, leBlk_some, eq_self, true_or, or_true, reduceCtorEq, false_or, c0, allL_bo, renL_bo])) (aiF (d := d) (i := i) (m := m) (q := pre.length) hb (hF v hv) (hl v hv) (fun x1 x2 x3 x4 => ?_) v.fs [] true rfl rfl)
    refine hK _ _ ?_
    clear hK
    cases hbi : b.getD i false with
    | true =>
      rw [hbi] at hg he hlen
      simp only [if_true] at he hlen
      (repeat' (first | ((with_reducible first | refine aops_cons' fun C hC => ?_ | refine aopsD_cons' fun C hC => ?_ | intro C hC); simp only [go_sem, hg, hi, hib, cBo, List.length_map]; ((with_reducible first | refine finA hC ?_ | refine finD hC ?_); clear hC C)) | (with_reducible first | refine awp_seq_k fun K hK => ?_ | refine awp_reg_k fun K hK => ?_ | refine awp_dreg_k fun K hK => ?_ | (refine aops_nil ?_; refine hK _ _ ?_; try clear hK K) | (refine aopsD_nil ?_; refine hK _ _ _ ?_ ?_; (focus kernel_rfl); try clear hK K) | (refine thn_normal ?_; refine hK _ _ ?_; try clear hK K) | refine catch_normal ?_ | refine awp_skip_k ?_ | refine awp_ret_k ?_ | refine awp_exit_k ?_ | refine awp_block_k ?_ | (refine thn_exit ?_; try clear hK K) | (refine thn_ret ?_; try clear hK K) | refine catch_ret ?_ | refine catch_exit ?_ | (refine catch_other ?_ ?_; focus decide)) | ((with_reducible first | apply aops_guard' | apply aopsD_guard' | apply awp_cond_g); focus (simp only [go_sem, hg, hi, hib, cBo, List.length_map]; exact rfl)) | (with_reducible first | refine gk_tt ?_ | refine gk_ff ?_ | refine ck_t ?_ | refine ck_f ?_) | ((with_reducible first | refine gk_tf ?_ | refine gk_ft ?_ | refine gk_u ?_ | refine gk_u' ?_); first | (intro _ e; (first | rw [put_some] at e | rw [put_none] at e); subst e) | (intro _ _ e e'; (first | rw [put_some] at e | rw [put_none] at e); subst e; subst e'))))
      rw [show (List.map cBo b).set i [V.pv (PV.lit (Value.bool true))] = (b.set i true).map cBo from set_bo]
      refine thn_normal ?_
      refine hK1 _ _ _ _ _ (LeB [0] (by refine ⟨?_, ?_, ?_⟩ <;> simp only [leFr, leFb, leHp, V.ren, V.renL, V.bd, V.bdL, allL, lt, Go.Ab.get, hget, List.map_cons, List.map_nil, List.length_cons, List.length_nil, List.length_append, List.getElem?_cons_zero, List.getElem?_cons_succ, List.getElem?_nil, Option.join_some, Option.join_none, List.getD_cons_zero, List.getD_cons_succ, List.getD_nil, Nat.reduceAdd, Nat.reduceLT, Nat.reduceEqDiff, Nat.zero_add, reduceIte, if_true, if_false, and_true, true_and, renL_vcells, allL_vcells, renL_pv, leBlk_some, eq_self, true_or, or_true, reduceCtorEq, false_or, hw, List.length_append, allL_bo, renL_bo])) (ih (pre ++ [v]) _ hlen (by simp [hpre]) he)
    | false =>
      rw [hbi] at hg he hlen
      simp only [Bool.false_eq_true, if_false] at he hlen
      (repeat' (first | ((with_reducible first | refine aops_cons' fun C hC => ?_ | refine aopsD_cons' fun C hC => ?_ | intro C hC); simp only [go_sem, hg, hi, hib, cBo, List.length_map]; ((with_reducible first | refine finA hC ?_ | refine finD hC ?_); clear hC C)) | (with_reducible first | refine awp_seq_k fun K hK => ?_ | refine awp_reg_k fun K hK => ?_ | refine awp_dreg_k fun K hK => ?_ | (refine aops_nil ?_; refine hK _ _ ?_; try clear hK K) | (refine aopsD_nil ?_; refine hK _ _ _ ?_ ?_; (focus kernel_rfl); try clear hK K) | (refine thn_normal ?_; refine hK _ _ ?_; try clear hK K) | refine catch_normal ?_ | refine awp_skip_k ?_ | refine awp_ret_k ?_ | refine awp_exit_k ?_ | refine awp_block_k ?_ | (refine thn_exit ?_; try clear hK K) | (refine thn_ret ?_; try clear hK K) | refine catch_ret ?_ | refine catch_exit ?_ | (refine catch_other ?_ ?_; focus decide)) | ((with_reducible first | apply aops_guard' | apply aopsD_guard' | apply awp_cond_g); focus (simp only [go_sem, hg, hi, hib, cBo, List.length_map]; exact rfl)) | (with_reducible first | refine gk_tt ?_ | refine gk_ff ?_ | refine ck_t ?_ | refine ck_f ?_) | ((with_reducible first | refine gk_tf ?_ | refine gk_ft ?_ | refine gk_u ?_ | refine gk_u' ?_); first | (intro _ e; (first | rw [put_some] at e | rw [put_none] at e); subst e) | (intro _ _ e e'; (first | rw [put_some] at e | rw [put_none] at e); subst e; subst e'))))
      rw [show (List.map cBo b).set i [V.pv (PV.lit (Value.bool (fAll b v.fs true)))] = (b.set i (fAll b v.fs true)).map cBo from set_bo]
      refine thn_normal ?_
      refine hK1 _ _ _ _ _ (LeB [0] (by refine ⟨?_, ?_, ?_⟩ <;> simp only [leFr, leFb, leHp, V.ren, V.renL, V.bd, V.bdL, allL, lt, Go.Ab.get, hget, List.map_cons, List.map_nil, List.length_cons, List.length_nil, List.length_append, List.getElem?_cons_zero, List.getElem?_cons_succ, List.getElem?_nil, Option.join_some, Option.join_none, List.getD_cons_zero, List.getD_cons_succ, List.getD_nil, Nat.reduceAdd, Nat.reduceLT, Nat.reduceEqDiff, Nat.zero_add, reduceIte, if_true, if_false, and_true, true_and, renL_vcells, allL_vcells, renL_pv, leBlk_some, eq_self, true_or, or_true, reduceCtorEq, false_or, hw, List.length_append, allL_bo, renL_bo])) (ih (pre ++ [v]) _ hlen (by simp [hpre]) he)
set_option maxHeartbeats 4000000 in
theorem aiD {ds : List Dm} {m : Nat} (hds : ds.length ≤ 1099511627776) (hF : FsOk ds) (hl : ∀ d ∈ ds, ∀ v ∈ d.vs, v.fs.length ≤ 1099511627776) (hvl : ∀ d ∈ ds, d.vs.length ≤ 1099511627776) {Q : Exit → Fr → Hp → Prop} {b0 : List Bool}
    (hK0 : ∀ (x1 x2 x3 x4 : V) (b : List Bool), b = inhD ds 0 b0 → Q Exit.normal [(23, x1), (22, x2), (21, x3), (20, x4), (18, .pv (ii m)), (17, .pv (ii ds.length)), (3, .row 0 ds.length true), (0, .pv (.list 2 (encDm ds)))] [some ⟨false, 4, 1, b.map cBo, none⟩]) :
    ∀ (rest pre : List Dm) (b : List Bool), b.length = ds.length → pre ++ rest = ds → inhD ds 0 b0 = inhD rest pre.length b → loopN (awp Try.prog ac45_l2) (catch_ 2 Q) (rest.length + 1)
      [(22, .pv (ii pre.length)), (21, .pv (ii ds.length)), (20, .pv (.list 2 (encDm ds))), (18, .pv (ii m)), (17, .pv (ii ds.length)), (3, .row 0 ds.length true), (0, .pv (.list 2 (encDm ds)))] [some ⟨false, 4, 1, b.map cBo, none⟩] := by
  intro rest
  induction rest with
  | nil =>
    intro pre b hb hpre he
    have hpre : pre = ds := by simpa using hpre
    have hle : (pre.length : Int) = ds.length := by rw [hpre]
    have hlf : decide ((pre.length : Int) < (ds.length : Int)) = false := by rw [hpre]; exact lt_end _
    refine loopN_k fun K1 hK1 => ?_
    unfold ac45_l2
    (repeat' (first | ((with_reducible first | refine aops_cons' fun C hC => ?_ | refine aopsD_cons' fun C hC => ?_ | intro C hC); simp only [go_sem, hlf]; ((with_reducible first | refine finA hC ?_ | refine finD hC ?_); clear hC C)) | (with_reducible first | refine awp_seq_k fun K hK => ?_ | refine awp_reg_k fun K hK => ?_ | refine awp_dreg_k fun K hK => ?_ | (refine aops_nil ?_; refine hK _ _ ?_; try clear hK K) | (refine aopsD_nil ?_; refine hK _ _ _ ?_ ?_; (focus kernel_rfl); try clear hK K) | (refine thn_normal ?_; refine hK _ _ ?_; try clear hK K) | refine catch_normal ?_ | refine awp_skip_k ?_ | refine awp_ret_k ?_ | refine awp_exit_k ?_ | refine awp_block_k ?_ | (refine thn_exit ?_; try clear hK K) | (refine thn_ret ?_; try clear hK K) | refine catch_ret ?_ | refine catch_exit ?_ | (refine catch_other ?_ ?_; focus decide)) | ((with_reducible first | apply aops_guard' | apply aopsD_guard' | apply awp_cond_g); focus (simp only [go_sem, hlf]; exact rfl)) | (with_reducible first | refine gk_tt ?_ | refine gk_ff ?_ | refine ck_t ?_ | refine ck_f ?_) | ((with_reducible first | refine gk_tf ?_ | refine gk_ft ?_ | refine gk_u ?_ | refine gk_u' ?_); first | (intro _ e; (first | rw [put_some] at e | rw [put_none] at e); subst e) | (intro _ _ e e'; (first | rw [put_some] at e | rw [put_none] at e); subst e; subst e'))))
    exact hK0 _ _ _ _ _ (by rw [he]; rfl)
  | cons d rest ih =>
    intro pre b hb hpre he
    have hlt : decide ((pre.length : Int) < (ds.length : Int)) = true := by rw [← hpre]; exact lt_app _ _ _
    have hat : (encDm ds)[pre.length]? = some d.enc := by rw [← hpre]; exact encDm_at _ _ _
    have hw := wrapS (n := pre.length) (by have := congrArg List.length hpre; simp at this; omega)
    have hd : d ∈ ds := by rw [← hpre]; simp
    have hi : pre.length < ds.length := by have := congrArg List.length hpre; simp at this; omega
    have hib : pre.length < b.length := by omega
    have hg := get_bo hib
    simp only [inhD] at he
    refine loopN_k fun K1 hK1 => ?_
    unfold ac45_l2
    cases hk : (d.k == 1) with
    | false =>
      simp only [hk, Bool.not_false, if_true] at he
      (repeat' (first | ((with_reducible first | refine aops_cons' fun C hC => ?_ | refine aopsD_cons' fun C hC => ?_ | intro C hC); simp only [go_sem, hlt, hat, pcells_dm, bne, hk, hg, hi, hib, cBo, List.length_map]; ((with_reducible first | refine finA hC ?_ | refine finD hC ?_); clear hC C)) | (with_reducible first | refine awp_seq_k fun K hK => ?_ | refine awp_reg_k fun K hK => ?_ | refine awp_dreg_k fun K hK => ?_ | (refine aops_nil ?_; refine hK _ _ ?_; try clear hK K) | (refine aopsD_nil ?_; refine hK _ _ _ ?_ ?_; (focus kernel_rfl); try clear hK K) | (refine thn_normal ?_; refine hK _ _ ?_; try clear hK K) | refine catch_normal ?_ | refine awp_skip_k ?_ | refine awp_ret_k ?_ | refine awp_exit_k ?_ | refine awp_block_k ?_ | (refine thn_exit ?_; try clear hK K) | (refine thn_ret ?_; try clear hK K) | refine catch_ret ?_ | refine catch_exit ?_ | (refine catch_other ?_ ?_; focus decide)) | ((with_reducible first | apply aops_guard' | apply aopsD_guard' | apply awp_cond_g); focus (simp only [go_sem, hlt, hat, pcells_dm, bne, hk, hg, hi, hib, cBo, List.length_map]; exact rfl)) | (with_reducible first | refine gk_tt ?_ | refine gk_ff ?_ | refine ck_t ?_ | refine ck_f ?_) | ((with_reducible first | refine gk_tf ?_ | refine gk_ft ?_ | refine gk_u ?_ | refine gk_u' ?_); first | (intro _ e; (first | rw [put_some] at e | rw [put_none] at e); subst e) | (intro _ _ e e'; (first | rw [put_some] at e | rw [put_none] at e); subst e; subst e'))))
      rw [show (List.map cBo b).set pre.length [V.pv (PV.lit (Value.bool true))] = (b.set pre.length true).map cBo from set_bo]
      refine thn_normal ?_
      refine hK1 _ _ _ _ _ (LeB [0] (by refine ⟨?_, ?_, ?_⟩ <;> simp only [leFr, leFb, leHp, V.ren, V.renL, V.bd, V.bdL, allL, lt, Go.Ab.get, hget, List.map_cons, List.map_nil, List.length_cons, List.length_nil, List.length_append, List.getElem?_cons_zero, List.getElem?_cons_succ, List.getElem?_nil, Option.join_some, Option.join_none, List.getD_cons_zero, List.getD_cons_succ, List.getD_nil, Nat.reduceAdd, Nat.reduceLT, Nat.reduceEqDiff, Nat.zero_add, reduceIte, if_true, if_false, and_true, true_and, renL_vcells, allL_vcells, renL_pv, leBlk_some, eq_self, true_or, or_true, reduceCtorEq, false_or, hw, List.length_append, allL_bo, renL_bo])) (ih (pre ++ [d]) (b.set pre.length true) (by simp [hb]) (by simp [hpre]) (by simpa using he))
    | true =>
      simp only [hk, Bool.not_true, Bool.false_eq_true, if_false] at he
      (repeat' (first | ((with_reducible first | refine aops_cons' fun C hC => ?_ | refine aopsD_cons' fun C hC => ?_ | intro C hC); simp only [go_sem, hlt, hat, pcells_dm, bne, hk, encVr_len]; ((with_reducible first | refine finA hC ?_ | refine finD hC ?_); clear hC C)) | (with_reducible first | refine awp_seq_k fun K hK => ?_ | refine awp_reg_k fun K hK => ?_ | refine awp_dreg_k fun K hK => ?_ | (refine aops_nil ?_; refine hK _ _ ?_; try clear hK K) | (refine aopsD_nil ?_; refine hK _ _ _ ?_ ?_; (focus kernel_rfl); try clear hK K) | (refine thn_normal ?_; refine hK _ _ ?_; try clear hK K) | refine catch_normal ?_ | refine awp_skip_k ?_ | refine awp_ret_k ?_ | refine awp_exit_k ?_ | refine awp_block_k ?_ | (refine thn_exit ?_; try clear hK K) | (refine thn_ret ?_; try clear hK K) | refine catch_ret ?_ | refine catch_exit ?_ | (refine catch_other ?_ ?_; focus decide)) | ((with_reducible first | apply aops_guard' | apply aopsD_guard' | apply awp_cond_g); focus (simp only [go_sem, hlt, hat, pcells_dm, bne, hk, encVr_len]; exact rfl)) | (with_reducible first | refine gk_tt ?_ | refine gk_ff ?_ | refine ck_t ?_ | refine ck_f ?_) | ((with_reducible first | refine gk_tf ?_ | refine gk_ft ?_ | refine gk_u ?_ | refine gk_u' ?_); first | (intro _ e; (first | rw [put_some] at e | rw [put_none] at e); subst e) | (intro _ _ e e'; (first | rw [put_some] at e | rw [put_none] at e); subst e; subst e'))))
      refine awp_loop_k _ (LeB [0] (by refine ⟨?_, ?_, ?_⟩ <;> simp only [leFr, leFb, leHp, V.ren, V.renL, V.bd, V.bdL, allL, lt, Go.Ab.get, hget, List.map_cons, List.map_nil, List.length_cons, List.length_nil, List.length_append, List.getElem?_cons_zero, List.getElem?_cons_succ, List.getElem?_nil, Option.join_some, Option.join_none, List.getD_cons_zero, List.getD_cons_succ, List.getD_nil, Nat.reduceAdd, Nat.reduceLT, Nat.reduceEqDiff, Nat.zero_add, reduceIte, if_true, if_false, and_true, true_and, renL_vcells, allL_vcells, renL_pv, leBlk_some, eq_self, true_or, or_true, reduceCtorEq, false_or, c0, allL_bo, renL_bo])) (aiV (d := d) (m := m) (b0 := b) hi (hF d hd) (hl d hd) (hvl d hd) (fun x1 x2 x3 x4 b' hb' => ?_) d.vs [] b hb rfl rfl)
      subst hb'
      (repeat' (first | ((with_reducible first | refine aops_cons' fun C hC => ?_ | refine aopsD_cons' fun C hC => ?_ | intro C hC); simp only [go_sem]; ((with_reducible first | refine finA hC ?_ | refine finD hC ?_); clear hC C)) | (with_reducible first | refine awp_seq_k fun K hK => ?_ | refine awp_reg_k fun K hK => ?_ | refine awp_dreg_k fun K hK => ?_ | (refine aops_nil ?_; refine hK _ _ ?_; try clear hK K) | (refine aopsD_nil ?_; refine hK _ _ _ ?_ ?_; (focus kernel_rfl); try clear hK K) | (refine thn_normal ?_; refine hK _ _ ?_; try clear hK K) | refine catch_normal ?_ | refine awp_skip_k ?_ | refine awp_ret_k ?_ | refine awp_exit_k ?_ | refine awp_block_k ?_ | (refine thn_exit ?_; try clear hK K) | (refine thn_ret ?_; try clear hK K) | refine catch_ret ?_ | refine catch_exit ?_ | (refine catch_other ?_ ?_; focus decide)) | ((with_reducible first | apply aops_guard' | apply aopsD_guard' | apply awp_cond_g); focus (simp only [go_sem]; exact rfl)) | (with_reducible first | refine gk_tt ?_ | refine gk_ff ?_ | refine ck_t ?_ | refine ck_f ?_) | ((with_reducible first | refine gk_tf ?_ | refine gk_ft ?_ | refine gk_u ?_ | refine gk_u' ?_); first | (intro _ e; (first | rw [put_some] at e | rw [put_none] at e); subst e) | (intro _ _ e e'; (first | rw [put_some] at e | rw [put_none] at e); subst e; subst e'))))
      refine thn_normal ?_
      refine hK1 _ _ _ _ _ (LeB [0] (by refine ⟨?_, ?_, ?_⟩ <;> simp only [leFr, leFb, leHp, V.ren, V.renL, V.bd, V.bdL, allL, lt, Go.Ab.get, hget, List.map_cons, List.map_nil, List.length_cons, List.length_nil, List.length_append, List.getElem?_cons_zero, List.getElem?_cons_succ, List.getElem?_nil, Option.join_some, Option.join_none, List.getD_cons_zero, List.getD_cons_succ, List.getD_nil, Nat.reduceAdd, Nat.reduceLT, Nat.reduceEqDiff, Nat.zero_add, reduceIte, if_true, if_false, and_true, true_and, renL_vcells, allL_vcells, renL_pv, leBlk_some, eq_self, true_or, or_true, reduceCtorEq, false_or, hw, List.length_append, allL_bo, renL_bo])) (ih (pre ++ [d]) (inhV pre.length d.vs b) (by rw [inhV_len, hb]) (by simp [hpre]) (by simpa using he))
set_option maxHeartbeats 4000000 in
theorem inh_ok (ds : List Dm) (hF : FsOk ds) : PCall Try.prog 45 [.list 2 (encDm ds)] (bb (inh ds)) := by
  generalize hR : inh ds = R
  unfold inh at hR
  refine PCall.intro' (ps := [bb R]) fn45 (by simp) fun hok => ?_
  have hds : ds.length ≤ 1099511627776 := by
    simp only [PV.okL, PV.ok, encDm_len, big] at hok; exact hok.1.1
  have hdl : ds.length ≤ big := hds
  have hed : ∀ d ∈ ds, d.vs.length ≤ 1099511627776 ∧ PV.okL (encVr d.vs) := by
    intro d hd
    simp only [PV.okL, PV.ok] at hok
    have := okL_mem hok.1.2 (List.mem_map.2 ⟨d, hd, rfl⟩ : Dm.enc d ∈ encDm ds)
    simp only [dm_enc, PV.ok, PV.okL, encVr_len, big] at this
    exact ⟨this.2.1.1, this.2.1.2⟩
  have hvl : ∀ d ∈ ds, d.vs.length ≤ 1099511627776 := fun d hd => (hed d hd).1
  have hl : ∀ d ∈ ds, ∀ v ∈ d.vs, v.fs.length ≤ 1099511627776 := fun d hd v hv => fs_bound (hed d hd).2 hv
  clear hok hed
  unfold ac45
  simp only [argFr]
  (repeat' (first | ((with_reducible first | refine aops_cons' fun C hC => ?_ | refine aopsD_cons' fun C hC => ?_ | intro C hC); simp only [go_sem, encDm_len, hdl, beq_self_eq_true]; ((with_reducible first | refine finA hC ?_ | refine finD hC ?_); clear hC C)) | (with_reducible first | refine awp_seq_k fun K hK => ?_ | refine awp_reg_k fun K hK => ?_ | refine awp_dreg_k fun K hK => ?_ | (refine aops_nil ?_; refine hK _ _ ?_; try clear hK K) | (refine aopsD_nil ?_; refine hK _ _ _ ?_ ?_; (focus kernel_rfl); try clear hK K) | (refine thn_normal ?_; refine hK _ _ ?_; try clear hK K) | refine catch_normal ?_ | refine awp_skip_k ?_ | refine awp_ret_k ?_ | refine awp_exit_k ?_ | refine awp_block_k ?_ | (refine thn_exit ?_; try clear hK K) | (refine thn_ret ?_; try clear hK K) | refine catch_ret ?_ | refine catch_exit ?_ | (refine catch_other ?_ ?_; focus decide)) | ((with_reducible first | apply aops_guard' | apply aopsD_guard' | apply awp_cond_g); focus (simp only [go_sem, encDm_len, hdl, beq_self_eq_true]; exact rfl)) | (with_reducible first | refine gk_tt ?_ | refine gk_ff ?_ | refine ck_t ?_ | refine ck_f ?_) | ((with_reducible first | refine gk_tf ?_ | refine gk_ft ?_ | refine gk_u ?_ | refine gk_u' ?_); first | (intro _ e; (first | rw [put_some] at e | rw [put_none] at e); subst e) | (intro _ _ e e'; (first | rw [put_some] at e | rw [put_none] at e); subst e; subst e'))))
  have go : ∀ (k m : Nat) (b : List Bool), m + k = ds.length → b.length = ds.length → inhN ds ds.length (List.replicate ds.length false) = inhN ds k b → loopN (awp Try.prog ac45_l3) (catch_ 0 (thn K (retP [RV.tmp 2] [bb R]))) (k + 1)
      [(18, .pv (ii m)), (17, .pv (ii ds.length)), (3, .row 0 ds.length true), (0, .pv (.list 2 (encDm ds)))] [some ⟨false, 4, 1, b.map cBo, none⟩] := by
    intro k
    induction k with
    | zero =>
      intro m b hm hb he
      have hlf : decide ((m : Int) < (ds.length : Int)) = false := decide_eq_false (by omega)
      rw [he] at hR
      simp only [inhN] at hR
      refine loopN_k fun K1 hK1 => ?_
      unfold ac45_l3
      (repeat' (first | ((with_reducible first | refine aops_cons' fun C hC => ?_ | refine aopsD_cons' fun C hC => ?_ | intro C hC); simp only [go_sem, hlf]; ((with_reducible first | refine finA hC ?_ | refine finD hC ?_); clear hC C)) | (with_reducible first | refine awp_seq_k fun K hK => ?_ | refine awp_reg_k fun K hK => ?_ | refine awp_dreg_k fun K hK => ?_ | (refine aops_nil ?_; refine hK _ _ ?_; try clear hK K) | (refine aopsD_nil ?_; refine hK _ _ _ ?_ ?_; (focus kernel_rfl); try clear hK K) | (refine thn_normal ?_; refine hK _ _ ?_; try clear hK K) | refine catch_normal ?_ | refine awp_skip_k ?_ | refine awp_ret_k ?_ | refine awp_exit_k ?_ | refine awp_block_k ?_ | (refine thn_exit ?_; try clear hK K) | (refine thn_ret ?_; try clear hK K) | refine catch_ret ?_ | refine catch_exit ?_ | (refine catch_other ?_ ?_; focus decide)) | ((with_reducible first | apply aops_guard' | apply aopsD_guard' | apply awp_cond_g); focus (simp only [go_sem, hlf]; exact rfl)) | (with_reducible first | refine gk_tt ?_ | refine gk_ff ?_ | refine ck_t ?_ | refine ck_f ?_) | ((with_reducible first | refine gk_tf ?_ | refine gk_ft ?_ | refine gk_u ?_ | refine gk_u' ?_); first | (intro _ e; (first | rw [put_some] at e | rw [put_none] at e); subst e) | (intro _ _ e e'; (first | rw [put_some] at e | rw [put_none] at e); subst e; subst e'))))
      have fin : ∀ (rest pre : List Bool), pre ++ rest = b → allT b = allT rest → loopN (awp Try.prog ac45_l4) (catch_ 8 (thn K (retP [RV.tmp 2] [bb R]))) (rest.length + 1)
          [(70, .pv (ii pre.length)), (69, .pv (ii ds.length)), (68, .row 0 ds.length true)] [some ⟨false, 4, 1, b.map cBo, none⟩] := by
        intro rest
        induction rest with
        | nil =>
          intro pre hpre hi
          have hlf : decide ((pre.length : Int) < (ds.length : Int)) = false := by rw [← hb, ← hpre]; simp
          rw [hi] at hR
          simp only [allT] at hR
          refine loopN_k fun K1 hK1 => ?_
          unfold ac45_l4
          (repeat' (first | ((with_reducible first | refine aops_cons' fun C hC => ?_ | refine aopsD_cons' fun C hC => ?_ | intro C hC); simp only [go_sem, hlf]; ((with_reducible first | refine finA hC ?_ | refine finD hC ?_); clear hC C)) | (with_reducible first | refine awp_seq_k fun K hK => ?_ | refine awp_reg_k fun K hK => ?_ | refine awp_dreg_k fun K hK => ?_ | (refine aops_nil ?_; refine hK _ _ ?_; try clear hK K) | (refine aopsD_nil ?_; refine hK _ _ _ ?_ ?_; (focus kernel_rfl); try clear hK K) | (refine thn_normal ?_; refine hK _ _ ?_; try clear hK K) | refine catch_normal ?_ | refine awp_skip_k ?_ | refine awp_ret_k ?_ | refine awp_exit_k ?_ | refine awp_block_k ?_ | (refine thn_exit ?_; try clear hK K) | (refine thn_ret ?_; try clear hK K) | refine catch_ret ?_ | refine catch_exit ?_ | (refine catch_other ?_ ?_; focus decide)) | ((with_reducible first | apply aops_guard' | apply aopsD_guard' | apply awp_cond_g); focus (simp only [go_sem, hlf]; exact rfl)) | (with_reducible first | refine gk_tt ?_ | refine gk_ff ?_ | refine ck_t ?_ | refine ck_f ?_) | ((with_reducible first | refine gk_tf ?_ | refine gk_ft ?_ | refine gk_u ?_ | refine gk_u' ?_); first | (intro _ e; (first | rw [put_some] at e | rw [put_none] at e); subst e) | (intro _ _ e e'; (first | rw [put_some] at e | rw [put_none] at e); subst e; subst e'))))
          rw [← hR]
          (refine retP_ret (List.range 40) rfl ?_; (first | exact vwA | exact vwT | exact vwW))
        | cons x rest ih =>
          intro pre hpre hi
          have hlt : decide ((pre.length : Int) < (ds.length : Int)) = true := by rw [← hb, ← hpre]; exact lt_app _ _ _
          have hi2 : pre.length < ds.length := by rw [← hb, ← hpre]; simp
          have hg : (b.map cBo)[pre.length]? = some (cBo x) := by rw [← hpre]; simp
          have hw := wrapS (n := pre.length) (by omega)
          simp only [allT] at hi
          refine loopN_k fun K1 hK1 => ?_
          unfold ac45_l4
          cases x with
          | false =>
            rw [hi] at hR
            simp only [Bool.false_eq_true, if_false] at hR
            (repeat' (first | ((with_reducible first | refine aops_cons' fun C hC => ?_ | refine aopsD_cons' fun C hC => ?_ | intro C hC); simp only [go_sem, hlt, hi2, hg, cBo]; ((with_reducible first | refine finA hC ?_ | refine finD hC ?_); clear hC C)) | (with_reducible first | refine awp_seq_k fun K hK => ?_ | refine awp_reg_k fun K hK => ?_ | refine awp_dreg_k fun K hK => ?_ | (refine aops_nil ?_; refine hK _ _ ?_; try clear hK K) | (refine aopsD_nil ?_; refine hK _ _ _ ?_ ?_; (focus kernel_rfl); try clear hK K) | (refine thn_normal ?_; refine hK _ _ ?_; try clear hK K) | refine catch_normal ?_ | refine awp_skip_k ?_ | refine awp_ret_k ?_ | refine awp_exit_k ?_ | refine awp_block_k ?_ | (refine thn_exit ?_; try clear hK K) | (refine thn_ret ?_; try clear hK K) | refine catch_ret ?_ | refine catch_exit ?_ | (refine catch_other ?_ ?_; focus decide)) | ((with_reducible first | apply aops_guard' | apply aopsD_guard' | apply awp_cond_g); focus (simp only [go_sem, hlt, hi2, hg, cBo]; exact rfl)) | (with_reducible first | refine gk_tt ?_ | refine gk_ff ?_ | refine ck_t ?_ | refine ck_f ?_) | ((with_reducible first | refine gk_tf ?_ | refine gk_ft ?_ | refine gk_u ?_ | refine gk_u' ?_); first | (intro _ e; (first | rw [put_some] at e | rw [put_none] at e); subst e) | (intro _ _ e e'; (first | rw [put_some] at e | rw [put_none] at e); subst e; subst e'))))
            rw [← hR]
            (refine retP_ret (List.range 40) rfl ?_; (first | exact vwA | exact vwT | exact vwW))
          | true =>
            simp only [if_true] at hi
            (repeat' (first | ((with_reducible first | refine aops_cons' fun C hC => ?_ | refine aopsD_cons' fun C hC => ?_ | intro C hC); simp only [go_sem, hlt, hi2, hg, cBo]; ((with_reducible first | refine finA hC ?_ | refine finD hC ?_); clear hC C)) | (with_reducible first | refine awp_seq_k fun K hK => ?_ | refine awp_reg_k fun K hK => ?_ | refine awp_dreg_k fun K hK => ?_ | (refine aops_nil ?_; refine hK _ _ ?_; try clear hK K) | (refine aopsD_nil ?_; refine hK _ _ _ ?_ ?_; (focus kernel_rfl); try clear hK K) | (refine thn_normal ?_; refine hK _ _ ?_; try clear hK K) | refine catch_normal ?_ | refine awp_skip_k ?_ | refine awp_ret_k ?_ | refine awp_exit_k ?_ | refine awp_block_k ?_ | (refine thn_exit ?_; try clear hK K) | (refine thn_ret ?_; try clear hK K) | refine catch_ret ?_ | refine catch_exit ?_ | (refine catch_other ?_ ?_; focus decide)) | ((with_reducible first | apply aops_guard' | apply aopsD_guard' | apply awp_cond_g); focus (simp only [go_sem, hlt, hi2, hg, cBo]; exact rfl)) | (with_reducible first | refine gk_tt ?_ | refine gk_ff ?_ | refine ck_t ?_ | refine ck_f ?_) | ((with_reducible first | refine gk_tf ?_ | refine gk_ft ?_ | refine gk_u ?_ | refine gk_u' ?_); first | (intro _ e; (first | rw [put_some] at e | rw [put_none] at e); subst e) | (intro _ _ e e'; (first | rw [put_some] at e | rw [put_none] at e); subst e; subst e'))))
            refine thn_normal ?_
            refine hK1 _ _ _ _ _ (LeB [0] (by refine ⟨?_, ?_, ?_⟩ <;> simp only [leFr, leFb, leHp, V.ren, V.renL, V.bd, V.bdL, allL, lt, Go.Ab.get, hget, List.map_cons, List.map_nil, List.length_cons, List.length_nil, List.length_append, List.getElem?_cons_zero, List.getElem?_cons_succ, List.getElem?_nil, Option.join_some, Option.join_none, List.getD_cons_zero, List.getD_cons_succ, List.getD_nil, Nat.reduceAdd, Nat.reduceLT, Nat.reduceEqDiff, Nat.zero_add, reduceIte, if_true, if_false, and_true, true_and, renL_vcells, allL_vcells, renL_pv, leBlk_some, eq_self, true_or, or_true, reduceCtorEq, false_or, hw, List.length_append, allL_bo, renL_bo])) (ih (pre ++ [true]) (by simp [hpre]) hi)
      refine awp_loop_k _ (LeB [0] (by refine ⟨?_, ?_, ?_⟩ <;> simp only [leFr, leFb, leHp, V.ren, V.renL, V.bd, V.bdL, allL, lt, Go.Ab.get, hget, List.map_cons, List.map_nil, List.length_cons, List.length_nil, List.length_append, List.getElem?_cons_zero, List.getElem?_cons_succ, List.getElem?_nil, Option.join_some, Option.join_none, List.getD_cons_zero, List.getD_cons_succ, List.getD_nil, Nat.reduceAdd, Nat.reduceLT, Nat.reduceEqDiff, Nat.zero_add, reduceIte, if_true, if_false, and_true, true_and, renL_vcells, allL_vcells, renL_pv, leBlk_some, eq_self, true_or, or_true, reduceCtorEq, false_or, c0, allL_bo, renL_bo])) (fin b [] rfl rfl)
    | succ k ih =>
      intro m b hm hb he
      have hlt : decide ((m : Int) < (ds.length : Int)) = true := decide_eq_true (by omega)
      have hw := wrapS (n := m) (by omega)
      rw [inhN] at he
      refine loopN_k fun K1 hK1 => ?_
      unfold ac45_l3
      (repeat' (first | ((with_reducible first | refine aops_cons' fun C hC => ?_ | refine aopsD_cons' fun C hC => ?_ | intro C hC); simp only [go_sem, hlt, encDm_len]; ((with_reducible first | refine finA hC ?_ | refine finD hC ?_); clear hC C)) | (with_reducible first | refine awp_seq_k fun K hK => ?_ | refine awp_reg_k fun K hK => ?_ | refine awp_dreg_k fun K hK => ?_ | (refine aops_nil ?_; refine hK _ _ ?_; try clear hK K) | (refine aopsD_nil ?_; refine hK _ _ _ ?_ ?_; (focus kernel_rfl); try clear hK K) | (refine thn_normal ?_; refine hK _ _ ?_; try clear hK K) | refine catch_normal ?_ | refine awp_skip_k ?_ | refine awp_ret_k ?_ | refine awp_exit_k ?_ | refine awp_block_k ?_ | (refine thn_exit ?_; try clear hK K) | (refine thn_ret ?_; try clear hK K) | refine catch_ret ?_ | refine catch_exit ?_ | (refine catch_other ?_ ?_; focus decide)) | ((with_reducible first | apply aops_guard' | apply aopsD_guard' | apply awp_cond_g); focus (simp only [go_sem, hlt, encDm_len]; exact rfl)) | (with_reducible first | refine gk_tt ?_ | refine gk_ff ?_ | refine ck_t ?_ | refine ck_f ?_) | ((with_reducible first | refine gk_tf ?_ | refine gk_ft ?_ | refine gk_u ?_ | refine gk_u' ?_); first | (intro _ e; (first | rw [put_some] at e | rw [put_none] at e); subst e) | (intro _ _ e e'; (first | rw [put_some] at e | rw [put_none] at e); subst e; subst e'))))
      refine awp_loop_k _ (LeB [0] (by refine ⟨?_, ?_, ?_⟩ <;> simp only [leFr, leFb, leHp, V.ren, V.renL, V.bd, V.bdL, allL, lt, Go.Ab.get, hget, List.map_cons, List.map_nil, List.length_cons, List.length_nil, List.length_append, List.getElem?_cons_zero, List.getElem?_cons_succ, List.getElem?_nil, Option.join_some, Option.join_none, List.getD_cons_zero, List.getD_cons_succ, List.getD_nil, Nat.reduceAdd, Nat.reduceLT, Nat.reduceEqDiff, Nat.zero_add, reduceIte, if_true, if_false, and_true, true_and, renL_vcells, allL_vcells, renL_pv, leBlk_some, eq_self, true_or, or_true, reduceCtorEq, false_or, c0, allL_bo, renL_bo])) (aiD (m := m) (b0 := b) hds hF hl hvl (fun x1 x2 x3 x4 b' hb' => ?_) ds [] b hb rfl rfl)
      subst hb'
      (repeat' (first | ((with_reducible first | refine aops_cons' fun C hC => ?_ | refine aopsD_cons' fun C hC => ?_ | intro C hC); simp only [go_sem]; ((with_reducible first | refine finA hC ?_ | refine finD hC ?_); clear hC C)) | (with_reducible first | refine awp_seq_k fun K hK => ?_ | refine awp_reg_k fun K hK => ?_ | refine awp_dreg_k fun K hK => ?_ | (refine aops_nil ?_; refine hK _ _ ?_; try clear hK K) | (refine aopsD_nil ?_; refine hK _ _ _ ?_ ?_; (focus kernel_rfl); try clear hK K) | (refine thn_normal ?_; refine hK _ _ ?_; try clear hK K) | refine catch_normal ?_ | refine awp_skip_k ?_ | refine awp_ret_k ?_ | refine awp_exit_k ?_ | refine awp_block_k ?_ | (refine thn_exit ?_; try clear hK K) | (refine thn_ret ?_; try clear hK K) | refine catch_ret ?_ | refine catch_exit ?_ | (refine catch_other ?_ ?_; focus decide)) | ((with_reducible first | apply aops_guard' | apply aopsD_guard' | apply awp_cond_g); focus (simp only [go_sem]; exact rfl)) | (with_reducible first | refine gk_tt ?_ | refine gk_ff ?_ | refine ck_t ?_ | refine ck_f ?_) | ((with_reducible first | refine gk_tf ?_ | refine gk_ft ?_ | refine gk_u ?_ | refine gk_u' ?_); first | (intro _ e; (first | rw [put_some] at e | rw [put_none] at e); subst e) | (intro _ _ e e'; (first | rw [put_some] at e | rw [put_none] at e); subst e; subst e'))))
      refine thn_normal ?_
      refine hK1 _ _ _ _ _ (LeB [0] (by refine ⟨?_, ?_, ?_⟩ <;> simp only [leFr, leFb, leHp, V.ren, V.renL, V.bd, V.bdL, allL, lt, Go.Ab.get, hget, List.map_cons, List.map_nil, List.length_cons, List.length_nil, List.length_append, List.getElem?_cons_zero, List.getElem?_cons_succ, List.getElem?_nil, Option.join_some, Option.join_none, List.getD_cons_zero, List.getD_cons_succ, List.getD_nil, Nat.reduceAdd, Nat.reduceLT, Nat.reduceEqDiff, Nat.zero_add, reduceIte, if_true, if_false, and_true, true_and, renL_vcells, allL_vcells, renL_pv, leBlk_some, eq_self, true_or, or_true, reduceCtorEq, false_or, hw, List.length_append, allL_bo, renL_bo])) (ih (m + 1) (inhD ds 0 b) (by omega) (by rw [inhD_len, hb]) he)
  rw [rep_bo]
  refine awp_loop_k _ (LeB [0] (by refine ⟨?_, ?_, ?_⟩ <;> simp only [leFr, leFb, leHp, V.ren, V.renL, V.bd, V.bdL, allL, lt, Go.Ab.get, hget, List.map_cons, List.map_nil, List.length_cons, List.length_nil, List.length_append, List.getElem?_cons_zero, List.getElem?_cons_succ, List.getElem?_nil, Option.join_some, Option.join_none, List.getD_cons_zero, List.getD_cons_succ, List.getD_nil, Nat.reduceAdd, Nat.reduceLT, Nat.reduceEqDiff, Nat.zero_add, reduceIte, if_true, if_false, and_true, true_and, renL_vcells, allL_vcells, renL_pv, leBlk_some, eq_self, true_or, or_true, reduceCtorEq, false_or, c0, allL_bo, renL_bo])) (go ds.length 0 _ (by omega) (by simp) rfl)
end Go.Proofs.Ytbdoblgofddhdaa
