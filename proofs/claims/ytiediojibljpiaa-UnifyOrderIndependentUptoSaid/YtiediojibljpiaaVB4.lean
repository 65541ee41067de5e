/- B4: joined from ZU4. -/
import Derived.Test.YtiediojibljpiaaVFnU
import Derived.Test.YtiediojibljpiaaVB3
import Derived.Test.YtiediojibljpiaaVA3
/- Solver.Unify, NewSolver; extent and WithinLimits. -/
set_option maxRecDepth 10000
set_option linter.unusedSimpArgs false
set_option linter.unusedVariables false
namespace Go.Proofs.Ytiediojibljpiaa
open Go Go.Ab
set_option maxHeartbeats 1000000 in
theorem sunify_ok {s m : Nat} (hsm : s ≠ m) (O : OS) {n : Nat} {L : SB} {p : Int} {a b : Ty} {r : Bool} {L' : SB} {p' : Int} (h : UniR n L 20000 a b r L' p') :
    OCall Try.prog 33 [pS s, a.enc, b.enc] (St O s m p L) (OIs (bb r) (St O s m p' L')) := by
  have hc := uni_ok hsm O n _ _ _ _ _ _ _ h
  refine OCall.intro fn33 (by simp) ?_
  unfold ac33
  simp only [argFr]
  (repeat' (first|((with_reducible refine aopsO_call0 (hc) ?_ ?_ ?_);(focus (simp only [go_sem, cells_enc, pcells_enc, enc_eq, Ty.tc, St_s O hsm, St_upds O hsm];done));(focus (simp only [go_sem, cells_enc, pcells_enc, enc_eq, Ty.tc, St_s O hsm, St_upds O hsm];done));rintro _ _ _ ⟨rfl, e2⟩ e;(replace e2 := Eq.symm e2;subst e2);(first|rw [qqY] at e|rw [qqZ] at e);subst e)|((with_reducible refine aopsDO_call0 (hc) ?_ ?_ ?_);(focus (simp only [go_sem, cells_enc, pcells_enc, enc_eq, Ty.tc, St_s O hsm, St_upds O hsm];done));(focus (simp only [go_sem, cells_enc, pcells_enc, enc_eq, Ty.tc, St_s O hsm, St_upds O hsm];done));intro _ _ e e';(first|rw [qqY] at e|rw [qqZ] at e);subst e;subst e')|((with_reducible refine aopsO_callX (hc) ?_ ?_ ?_);(focus (simp only [go_sem, cells_enc, pcells_enc, enc_eq, Ty.tc, St_s O hsm, St_upds O hsm];done));(focus (simp only [go_sem, cells_enc, pcells_enc, enc_eq, Ty.tc, St_s O hsm, St_upds O hsm];done));rintro _ _ _ ⟨rfl, e2⟩ e;(replace e2 := Eq.symm e2;subst e2);(first|rw [qqY] at e|rw [qqZ] at e);subst e)|((with_reducible refine aopsO_cons' fun C hC=>?_);simp only [go_sem, cells_enc, pcells_enc, enc_eq, Ty.tc, St_s O hsm, St_upds O hsm];((with_reducible refine finO hC ?_);clear hC C))|((with_reducible refine aopsO_ob' fun C hC=>?_);simp only [go_sem, cells_enc, pcells_enc, enc_eq, Ty.tc, St_s O hsm, St_upds O hsm];((with_reducible refine finOb hC ?_);clear hC C))|((with_reducible refine aopsDO_cons' fun C hC=>?_);simp only [go_sem, cells_enc, pcells_enc, enc_eq, Ty.tc, St_s O hsm, St_upds O hsm];((with_reducible refine finDO hC ?_);clear hC C))|((with_reducible refine aopsDO_ob' ?_ fun C hC=>?_);(focus rfl);simp only [go_sem, cells_enc, pcells_enc, enc_eq, Ty.tc, St_s O hsm, St_upds O hsm];((with_reducible refine finDOb hC ?_);clear hC C))|(with_reducible first|refine awpO_seq_k fun K hK=>?_|refine awpO_reg_k fun K hK=>?_|refine awpO_dreg_k fun K hK=>?_|(refine aopsO_nil ?_;refine hK _ _ _ ?_;try clear hK K)|(refine aopsDO_nil ?_;refine hK _ _ _ _ ?_ ?_;(focus kernel_rfl);try clear hK K)|(refine thnO_normal ?_;refine hK _ _ _ ?_;try clear hK K)|refine catchO_normal ?_|refine awpO_skip_k ?_|refine awpO_ret_k ?_|refine awpO_exit_k ?_|refine awpO_block_k ?_|(refine thnO_exit ?_;try clear hK K)|(refine thnO_ret ?_;try clear hK K)|refine catchO_ret ?_|refine catchO_exit ?_|(refine catchO_other ?_ ?_;focus decide))|((with_reducible first|apply aopsO_guard'|apply aopsDO_guard'|apply awpO_cond_g);focus (simp only [go_sem, cells_enc, pcells_enc, enc_eq, Ty.tc, St_s O hsm, St_upds O hsm];exact rfl))|(with_reducible first|refine gk_tt ?_|refine gk_ff ?_|refine ck_t ?_|refine ck_f ?_)|((with_reducible first|refine gk_tf ?_|refine gk_ft ?_|refine gk_u ?_|refine gk_u' ?_);first|(intro _ e;(first|rw [qqY] at e|rw [qqZ] at e);subst e)|(intro _ _ e e';(first|rw [qqY] at e|rw [qqZ] at e);subst e;subst e'))))
  (refine retPO_1 (List.range 40) rfl ?_ (OLe.refl _); exact vwA)
set_option maxHeartbeats 1000000 in
theorem new_ok (O : OS) : OCall Try.prog 32 [] O (fun r O' => ∃ s m, O s = none ∧ O m = none ∧ s ≠ m ∧ r = pS s ∧ O' = St O s m 0 []) := by
  refine OCall.intro fn32 (by simp) ?_
  unfold ac32
  simp only [argFr]
  refine awpO_seq_k fun K hK => ?_
  refine awpO_reg_k fun K hK => ?_
  refine aopsO_cons' fun C hC => ?_
  simp only [go_sem]
  (with_reducible refine finO hC ?_); clear hC C
  refine aopsO_nil ?_
  refine hK _ _ _ ?_; clear hK K
  refine thnO_normal ?_
  refine hK _ _ _ ?_; clear hK K
  refine awpO_seq_k fun K hK => ?_
  refine awpO_reg_k fun K hK => ?_
  refine aopsO_mkmapO fun km fm => ?_
  refine aopsO_cons' fun C hC => ?_
  simp only [go_sem]
  (with_reducible refine finO hC ?_); clear hC C
  refine aopsO_boxO (cs := [.pv (pM km), .pv (ii 0)]) (ps := [pM km, ii 0]) rfl rfl rfl fun ks fs => ?_
  (repeat' (first|((with_reducible refine aopsO_cons' fun C hC=>?_);simp only [go_sem];((with_reducible refine finO hC ?_);clear hC C))|((with_reducible refine aopsO_ob' fun C hC=>?_);simp only [go_sem];((with_reducible refine finOb hC ?_);clear hC C))|((with_reducible refine aopsDO_cons' fun C hC=>?_);simp only [go_sem];((with_reducible refine finDO hC ?_);clear hC C))|((with_reducible refine aopsDO_ob' ?_ fun C hC=>?_);(focus rfl);simp only [go_sem];((with_reducible refine finDOb hC ?_);clear hC C))|(with_reducible first|refine awpO_seq_k fun K hK=>?_|refine awpO_reg_k fun K hK=>?_|refine awpO_dreg_k fun K hK=>?_|(refine aopsO_nil ?_;refine hK _ _ _ ?_;try clear hK K)|(refine aopsDO_nil ?_;refine hK _ _ _ _ ?_ ?_;(focus kernel_rfl);try clear hK K)|(refine thnO_normal ?_;refine hK _ _ _ ?_;try clear hK K)|refine catchO_normal ?_|refine awpO_skip_k ?_|refine awpO_ret_k ?_|refine awpO_exit_k ?_|refine awpO_block_k ?_|(refine thnO_exit ?_;try clear hK K)|(refine thnO_ret ?_;try clear hK K)|refine catchO_ret ?_|refine catchO_exit ?_|(refine catchO_other ?_ ?_;focus decide))|((with_reducible first|apply aopsO_guard'|apply aopsDO_guard'|apply awpO_cond_g);focus (simp only [go_sem];exact rfl))|(with_reducible first|refine gk_tt ?_|refine gk_ff ?_|refine ck_t ?_|refine ck_f ?_)|((with_reducible first|refine gk_tf ?_|refine gk_ft ?_|refine gk_u ?_|refine gk_u' ?_);first|(intro _ e;(first|rw [qqY] at e|rw [qqZ] at e);subst e)|(intro _ _ e e';(first|rw [qqY] at e|rw [qqZ] at e);subst e;subst e'))))
  have hne : ks ≠ km := fun e => by rw [e, oupd_same] at fs; cases fs
  have hs : O ks = none := by rw [oupd_ne _ _ hne] at fs; exact fs
  refine retPO_ret (ps := [pS ks]) (List.range 40) rfl ?_ (OLe.refl _) ?_
  · exact vwA
  refine ⟨ks, km, hs, fm, hne, rfl, ?_⟩
  funext j
  unfold St
  by_cases h1 : j = ks
  · subst h1; rw [oupd_same, oupd_ne _ _ hne, oupd_same]; rfl
  · rw [oupd_ne _ _ h1]
    by_cases h2 : j = km
    · subst h2; rw [oupd_same, oupd_same]; rfl
    · rw [oupd_ne _ _ h2, oupd_ne _ _ h2, oupd_ne _ _ h1]
/-- a type as the equations have it -/
def good (t : Ty) : Prop := wfT t = true ∧ nds t ≤ 100
/-- what the bindings do to types -/
structure Sg (L : SB) (σ : Ty → Ty) : Prop where
  app : ∀ t : Ty, ¬ t.kd = 1 → σ t = .mk t.kd t.id (t.args.map σ)
  bound : ∀ t u : Ty, t.kd = 1 → lk L t.id = some u → σ t = σ u ∧ good u
  free : ∀ t : Ty, good t → t.kd = 1 → lk L t.id = none → σ t = t
  hd : ∀ t : Ty, good t → ∃ n r, hdN n L t = some r
mutual
def dpw : Ty → Int
  | .mk _ _ ss => IntKind.i64.wrap (dpwL ss 0 + 1)
def dpwL : List Ty → Int → Int
  | [], d => d
  | t :: ts, d => dpwL ts (if dpw t > d then dpw t else d)
end
theorem dpwL_app : ∀ (ss us : List Ty) (d : Int), dpwL (ss ++ us) d = dpwL us (dpwL ss d)
  | [], us, d => rfl
  | t :: ss, us, d => by simp only [List.cons_append, dpwL]; exact dpwL_app ss us _
theorem ndsL_app : ∀ (ss us : List Ty), ndsL (ss ++ us) = ndsL ss + ndsL us
  | [], us => by simp [ndsL]
  | t :: ss, us => by simp only [List.cons_append, ndsL, ndsL_app ss us]; omega
def sat (n : Int) : Int := if (200 : Int) < n then 200 else n
def exA (t : Ty) : Int × Int := (sat (nds t), dpw t)
abbrev exW (x : Int × Int) : PV := .agg [ii x.1, ii x.2]
def encE (E : List (Int × Int × Int)) : List (Int × PV) := E.map fun x => (x.1, exW x.2)
def invE (σ : Ty → Ty) (E : List (Int × Int × Int)) : Prop := ∀ x ∈ E, x.2 = exA (σ (.mk 1 x.1 []))
def lkE : List (Int × Int × Int) → Int → Option (Int × Int)
  | [], _ => none
  | x :: E, a => if a = x.1 then some x.2 else lkE E a
theorem lkm_E : ∀ (E : List (Int × Int × Int)) (a : Int), lkm (encE E) a = (lkE E a).map exW
  | [], a => rfl
  | x :: E, a => by
    simp only [encE, List.map_cons, lkm, lkE]
    split
    · rfl
    · exact lkm_E E a
theorem lkE_inv {σ : Ty → Ty} : ∀ {E : List (Int × Int × Int)} {a : Int} {e : Int × Int}, invE σ E → lkE E a = some e → e = exA (σ (.mk 1 a []))
  | [], a, e, _, h => by cases h
  | x :: E, a, e, hi, h => by
    simp only [lkE] at h
    split at h
    · rename_i he
      cases h; subst he
      exact hi x (by simp)
    · exact lkE_inv (fun y hy => hi y (by simp [hy])) h
theorem mins_E {σ : Ty → Ty} {a : Int} {e : Int × Int} (he : e = exA (σ (.mk 1 a []))) : ∀ {E : List (Int × Int × Int)}, invE σ E → ∃ E', invE σ E' ∧ mins (encE E) a (exW e) = encE E'
  | [], _ => ⟨[(a, e)], fun y hy => by simp only [List.mem_singleton] at hy; subst hy; exact he, rfl⟩
  | x :: E, hi => by
    by_cases h : a = x.1
    · refine ⟨(a, e) :: E, fun y hy => ?_, by simp only [encE, List.map_cons, mins, if_pos h]⟩
      rcases List.mem_cons.1 hy with rfl | hy
      · exact he
      · exact hi y (by simp [hy])
    · obtain ⟨E', h1, h2⟩ := mins_E he (E := E) fun y hy => hi y (by simp [hy])
      refine ⟨x :: E', fun y hy => ?_, by simp only [encE, List.map_cons, mins, if_neg h] at h2 ⊢; rw [h2]⟩
      rcases List.mem_cons.1 hy with rfl | hy
      · exact hi _ (by simp)
      · exact h1 y hy
def ExP (σ : Ty → Ty) (O : OS) (km : Nat) (u : Ty) : PV → OS → Prop := fun r O' => ∃ E', invE σ E' ∧ r = exW (exA u) ∧ O' = oupd O km (.mp (encE E'))
theorem exA_mk (k id : Int) (ss : List Ty) : exA (.mk k id ss) = (sat (1 + ndsL ss : Nat), IntKind.i64.wrap (dpwL ss 0 + 1)) := by simp only [exA, nds, dpw, Nat.add_comm]
theorem wfT_mem {k id : Int} {ss : List Ty} (h : wfT (.mk k id ss) = true) : ∀ a ∈ ss, wfT a = true := by
  have hL : ∀ ss : List Ty, wfTL ss = true → ∀ a ∈ ss, wfT a = true := by
    intro ss
    induction ss with
    | nil => intro _ a ha; cases ha
    | cons x xs ih =>
      intro h a ha
      simp only [wfTL] at h
      split at h
      · rename_i hx
        rcases List.mem_cons.1 ha with rfl | ha
        · exact hx
        · exact ih h a ha
      · cases h
  refine hL ss ?_
  simp only [wfT] at h
  split at h
  · exact h
  · cases h
theorem wfT_var {t : Ty} (h : wfT t = true) (hk : t.kd = 1) : t = .mk 1 t.id [] ∧ 0 ≤ t.id := by
  cases t with
  | mk k id ss =>
    simp only [Ty.kd] at hk
    subst hk
    simp only [wfT] at h
    split at h
    · rename_i hn
      simp [nwf] at hn
      simp only [Ty.id]
      exact ⟨by simp [hn], by omega⟩
    · cases h
theorem nds_memS {σ : Ty → Ty} {a : Ty} : ∀ {ss : List Ty}, a ∈ ss → nds (σ a) ≤ ndsL (ss.map σ)
  | [], h => by cases h
  | x :: xs, h => by
    simp only [List.map_cons, ndsL]
    rcases List.mem_cons.1 h with rfl | h
    · omega
    · have := nds_memS (σ := σ) h; omega
theorem nds_memT {a : Ty} : ∀ {ss : List Ty}, a ∈ ss → nds a ≤ ndsL ss
  | [], h => by cases h
  | x :: xs, h => by
    simp only [ndsL]
    rcases List.mem_cons.1 h with rfl | h
    · omega
    · have := nds_memT h; omega
theorem good_mem {t a : Ty} (h : good t) (ha : a ∈ t.args) : good a := by
  cases t with
  | mk k id ss =>
    refine ⟨wfT_mem h.1 a ha, ?_⟩
    have := nds_memT ha
    have h2 := h.2
    simp only [nds, Ty.args] at *
    omega
theorem len_nds : ∀ ss : List Ty, ss.length ≤ ndsL ss
  | [] => Nat.le_refl _
  | t :: ss => by have := len_nds ss; have := nds_pos t; simp only [List.length_cons, ndsL]; omega
theorem good_len {t : Ty} (h : good t) : t.args.length ≤ 100 := by
  cases t with
  | mk k id ss =>
    have := len_nds ss
    have h2 := h.2
    simp only [nds, Ty.args] at *
    omega
theorem good_var {t : Ty} (h : good t) (hk : t.kd = 1) : t = .mk 1 t.id [] ∧ 0 ≤ t.id := wfT_var h.1 hk
theorem sat_bd (n : Nat) : 0 ≤ sat n ∧ sat n ≤ 200 := by unfold sat; split <;> omega
theorem sat1 : sat ((1 : Nat) : Int) = 1 := by decide
theorem sat_add (m n : Nat) : (if (200 : Int) < sat m + sat n then 200 else sat m + sat n) = sat ((m + n : Nat) : Int) := by
  unfold sat
  split <;> split <;> split <;> split <;> omega
/-- the bindings' state behind a lookup in the table of extents -/
abbrev Ek (O : OS) (km : Nat) (E : List (Int × Int × Int)) : OS := oupd O km (.mp (encE E))
set_option maxHeartbeats 4000000 in
theorem ext_rows {s km : Nat} {σ : Ty → Ty} {O : OS} {t : Ty} (hlen : t.args.length ≤ 100)
    (hrec : ∀ a ∈ t.args, ∀ E, invE σ E → OCall Try.prog 61 [pS s, a.enc, pM km] (Ek O km E) (ExP σ O km (σ a))) {K : Fr → Hp → OS → Prop} {Q : PostO}
    (hN : ∀ fr E, invE σ E → Ab.get fr 12 = .ptr 2 0 0 → Ab.get fr 6 = .ptr 1 0 0 → K fr (some ⟨false, 29, 3, [t.tc], none⟩ :: some ⟨false, 80, 2, [[.pv (ii 0), .pv (ii 0)]], none⟩ :: some ⟨false, 80, 2, [[.pv (ii (sat (1 + ndsL (t.args.map σ) : Nat))), .pv (ii (dpwL (t.args.map σ) 0))]], none⟩ :: []) (Ek O km E)) :
    ∀ (rest pre : List Ty) (E : List (Int × Int × Int)), pre ++ rest = t.args → invE σ E → loopNO (awpO Try.prog ac61_l0) (catchO 0 (thnO K Q)) (rest.length + 1)
      [(54, .pv (ii pre.length)), (53, .pv (ii t.args.length)), (52, .pv (.list 3 (encL t.args))), (12, .ptr 2 0 0), (6, .ptr 1 0 0), (4, .ptr 0 0 0), (0, .pv (pS s)), (2, .pv (pM km))]
      [some ⟨false, 29, 3, [t.tc], none⟩, some ⟨false, 80, 2, [[.pv (ii 0), .pv (ii 0)]], none⟩, some ⟨false, 80, 2, [[.pv (ii (sat (1 + ndsL (pre.map σ) : Nat))), .pv (ii (dpwL (pre.map σ) 0))]], none⟩] (Ek O km E) := by
  intro rest
  induction rest with
  | nil =>
    intro pre E hpre hE
    have hpre : pre = t.args := by simpa using hpre
    subst hpre
    refine loopNO_k fun K1 hK1 => ?_
    unfold ac61_l0
    (repeat' (first|((with_reducible refine aopsO_cons' fun C hC=>?_);simp only [go_sem, lt_end];((with_reducible refine finO hC ?_);clear hC C))|((with_reducible refine aopsO_ob' fun C hC=>?_);simp only [go_sem, lt_end];((with_reducible refine finOb hC ?_);clear hC C))|((with_reducible refine aopsDO_cons' fun C hC=>?_);simp only [go_sem, lt_end];((with_reducible refine finDO hC ?_);clear hC C))|((with_reducible refine aopsDO_ob' ?_ fun C hC=>?_);(focus rfl);simp only [go_sem, lt_end];((with_reducible refine finDOb hC ?_);clear hC C))|(with_reducible first|refine awpO_seq_k fun K hK=>?_|refine awpO_reg_k fun K hK=>?_|refine awpO_dreg_k fun K hK=>?_|(refine aopsO_nil ?_;refine hK _ _ _ ?_;try clear hK K)|(refine aopsDO_nil ?_;refine hK _ _ _ _ ?_ ?_;(focus kernel_rfl);try clear hK K)|(refine thnO_normal ?_;refine hK _ _ _ ?_;try clear hK K)|refine catchO_normal ?_|refine awpO_skip_k ?_|refine awpO_ret_k ?_|refine awpO_exit_k ?_|refine awpO_block_k ?_|(refine thnO_exit ?_;try clear hK K)|(refine thnO_ret ?_;try clear hK K)|refine catchO_ret ?_|refine catchO_exit ?_|(refine catchO_other ?_ ?_;focus decide))|((with_reducible first|apply aopsO_guard'|apply aopsDO_guard'|apply awpO_cond_g);focus (simp only [go_sem, lt_end];exact rfl))|(with_reducible first|refine gk_tt ?_|refine gk_ff ?_|refine ck_t ?_|refine ck_f ?_)|((with_reducible first|refine gk_tf ?_|refine gk_ft ?_|refine gk_u ?_|refine gk_u' ?_);first|(intro _ e;(first|rw [qqY] at e|rw [qqZ] at e);subst e)|(intro _ _ e e';(first|rw [qqY] at e|rw [qqZ] at e);subst e;subst e'))))
    exact hN _ E hE rfl rfl
  | cons a rest ih =>
    intro pre E hpre hE
    have hlt : decide ((pre.length : Int) < (t.args.length : Int)) = true := by rw [← hpre]; exact lt_app _ _ _
    have hat : (encL t.args)[pre.length]? = some a.enc := by rw [← hpre]; exact encL_at _ _ _
    have hb : pre.length + 1 ≤ big := by have := congrArg List.length hpre; simp at this; unfold big; omega
    have hc := hrec a (by rw [← hpre]; simp) E hE
    refine loopNO_k fun K1 hK1 => ?_
    unfold ac61_l0
    (repeat' (first|((with_reducible refine aopsO_call0 hc ?_ ?_ ?_);(focus (simp only [go_sem];done));(focus (simp only [go_sem, enc_eq];done));rintro _ _ _ ⟨E2, hE2, rfl, rfl⟩ e;(first|rw [qqY] at e|rw [qqZ] at e);subst e)|((with_reducible refine aopsO_cons' fun C hC=>?_);simp only [go_sem, hlt, hat, cells_enc, pcells_enc, enc_eq, Ty.tc];((with_reducible refine finO hC ?_);clear hC C))|((with_reducible refine aopsO_ob' fun C hC=>?_);simp only [go_sem, hlt, hat, cells_enc, pcells_enc, enc_eq, Ty.tc];((with_reducible refine finOb hC ?_);clear hC C))|((with_reducible refine aopsDO_cons' fun C hC=>?_);simp only [go_sem, hlt, hat, cells_enc, pcells_enc, enc_eq, Ty.tc];((with_reducible refine finDO hC ?_);clear hC C))|((with_reducible refine aopsDO_ob' ?_ fun C hC=>?_);(focus rfl);simp only [go_sem, hlt, hat, cells_enc, pcells_enc, enc_eq, Ty.tc];((with_reducible refine finDOb hC ?_);clear hC C))|(with_reducible first|refine awpO_seq_k fun K hK=>?_|refine awpO_reg_k fun K hK=>?_|refine awpO_dreg_k fun K hK=>?_|(refine aopsO_nil ?_;refine hK _ _ _ ?_;try clear hK K)|(refine aopsDO_nil ?_;refine hK _ _ _ _ ?_ ?_;(focus kernel_rfl);try clear hK K)|(refine thnO_normal ?_;refine hK _ _ _ ?_;try clear hK K)|refine catchO_normal ?_|refine awpO_skip_k ?_|refine awpO_ret_k ?_|refine awpO_exit_k ?_|refine awpO_block_k ?_|(refine thnO_exit ?_;try clear hK K)|(refine thnO_ret ?_;try clear hK K)|refine catchO_ret ?_|refine catchO_exit ?_|(refine catchO_other ?_ ?_;focus decide))|((with_reducible first|apply aopsO_guard'|apply aopsDO_guard'|apply awpO_cond_g);focus (simp only [go_sem, hlt, hat, cells_enc, pcells_enc, enc_eq, Ty.tc];exact rfl))|(with_reducible first|refine gk_tt ?_|refine gk_ff ?_|refine ck_t ?_|refine ck_f ?_)|((with_reducible first|refine gk_tf ?_|refine gk_ft ?_|refine gk_u ?_|refine gk_u' ?_);first|(intro _ e;(first|rw [qqY] at e|rw [qqZ] at e);subst e)|(intro _ _ e e';(first|rw [qqY] at e|rw [qqZ] at e);subst e;subst e'))))
    have hw := wrapS (n := pre.length) (by unfold big at hb; omega)
    have b1 := sat_bd (1 + ndsL (pre.map σ))
    have b2 := sat_bd (nds (σ a))
    have hw2 : IntKind.i64.wrap (sat (1 + ndsL (pre.map σ) : Nat) + sat (nds (σ a) : Nat)) = sat (1 + ndsL (pre.map σ) : Nat) + sat (nds (σ a) : Nat) := wrapR (by omega) (by omega)
    refine thnO_normal ?_
    refine hK1 _ _ _ _ _ _ _ (LeB [0, 1, 2] (by refine ⟨?_, ?_, ?_⟩ <;> (simp only [leFr, leFb, leHp, V.ren, V.renL, V.bd, V.bdL, allL, lt, Go.Ab.get, hget, List.map_cons, List.map_nil, List.length_cons, List.length_nil, List.length_append, List.getElem?_cons_zero, List.getElem?_cons_succ, List.getElem?_nil, Option.join_some, Option.join_none, List.getD_cons_zero, List.getD_cons_succ, List.getD_nil, Nat.reduceAdd, Nat.reduceLT, Nat.reduceEqDiff, Nat.zero_add, reduceIte, if_true, if_false, and_true, true_and, renL_vcells, allL_vcells, renL_pv, leBlk_some, eq_self, true_or, or_true, reduceCtorEq, false_or, allL, Ty.tc, ii, hw, exA, hw2, sat_add, List.map_append, ndsL_app, dpwL_app, dpwL, ndsL, Nat.add_zero, Nat.add_assoc, List.length_append] <;> rfl))) (OLe.refl _) (ih (pre ++ [a]) E2 (by simp [hpre]) hE2)
set_option maxHeartbeats 4000000 in
theorem ext_ok {s m km : Nat} {p : Int} {L : SB} {σ : Ty → Ty} (hσ : Sg L σ) {O : OS} (hS : SolO O s m p L) (n1 : km ≠ s) (n2 : km ≠ m) : ∀ (N n : Nat) (t r : Ty) (E : List (Int × Int × Int)), good t → nds (σ t) ≤ N → hdN n L t = some r → invE σ E →
    OCall Try.prog 61 [pS s, t.enc, pM km] (Ek O km E) (ExP σ O km (σ t)) := by
  have h1 : ∀ E, Ek O km E s = some (.cells 60 [pM m, ii p]) := fun E => by simp only [Ek]; rw [oupd_ne _ _ (Ne.symm n1)]; exact hS.1
  have h2 : ∀ E, Ek O km E m = some (.mp (encM L)) := fun E => by simp only [Ek]; rw [oupd_ne _ _ (Ne.symm n2)]; exact hS.2
  have h3 : ∀ E, Ek O km E km = some (.mp (encE E)) := fun E => oupd_same _ _ _
  intro N
  induction N with
  | zero => intro n t r E _ h; have := nds_pos (σ t); omega
  | succ N ihN =>
    intro n
    induction n with
    | zero => intro t r E _ _ h; cases h
    | succ n ih =>
      intro t r E hg hN hh hE
      refine OCall.intro fn61 (by simp) ?_
      unfold ac61
      simp only [argFr]
      cases hk : (t.kd == 1) with
      | false =>
        have hk' : ¬ t.kd = 1 := by simpa using hk
        have happ := hσ.app t hk'
        (repeat' (first|((with_reducible refine aopsO_cons' fun C hC=>?_);simp only [go_sem, cells_enc, pcells_enc, enc_eq, Ty.tc, hk];((with_reducible refine finO hC ?_);clear hC C))|((with_reducible refine aopsO_ob' fun C hC=>?_);simp only [go_sem, cells_enc, pcells_enc, enc_eq, Ty.tc, hk];((with_reducible refine finOb hC ?_);clear hC C))|((with_reducible refine aopsDO_cons' fun C hC=>?_);simp only [go_sem, cells_enc, pcells_enc, enc_eq, Ty.tc, hk];((with_reducible refine finDO hC ?_);clear hC C))|((with_reducible refine aopsDO_ob' ?_ fun C hC=>?_);(focus rfl);simp only [go_sem, cells_enc, pcells_enc, enc_eq, Ty.tc, hk];((with_reducible refine finDOb hC ?_);clear hC C))|(with_reducible first|refine awpO_seq_k fun K hK=>?_|refine awpO_reg_k fun K hK=>?_|refine awpO_dreg_k fun K hK=>?_|(refine aopsO_nil ?_;refine hK _ _ _ ?_;try clear hK K)|(refine aopsDO_nil ?_;refine hK _ _ _ _ ?_ ?_;(focus kernel_rfl);try clear hK K)|(refine thnO_normal ?_;refine hK _ _ _ ?_;try clear hK K)|refine catchO_normal ?_|refine awpO_skip_k ?_|refine awpO_ret_k ?_|refine awpO_exit_k ?_|refine awpO_block_k ?_|(refine thnO_exit ?_;try clear hK K)|(refine thnO_ret ?_;try clear hK K)|refine catchO_ret ?_|refine catchO_exit ?_|(refine catchO_other ?_ ?_;focus decide))|((with_reducible first|apply aopsO_guard'|apply aopsDO_guard'|apply awpO_cond_g);focus (simp only [go_sem, cells_enc, pcells_enc, enc_eq, Ty.tc, hk];exact rfl))|(with_reducible first|refine gk_tt ?_|refine gk_ff ?_|refine ck_t ?_|refine ck_f ?_)|((with_reducible first|refine gk_tf ?_|refine gk_ft ?_|refine gk_u ?_|refine gk_u' ?_);first|(intro _ e;(first|rw [qqY] at e|rw [qqZ] at e);subst e)|(intro _ _ e e';(first|rw [qqY] at e|rw [qqZ] at e);subst e;subst e'))))
        refine awpO_loop_k _ (LeB [0, 1, 2] (by refine ⟨?_, ?_, ?_⟩ <;> simp only [leFr, leFb, leHp, V.ren, V.renL, V.bd, V.bdL, allL, lt, Go.Ab.get, hget, List.map_cons, List.map_nil, List.length_cons, List.length_nil, List.length_append, List.getElem?_cons_zero, List.getElem?_cons_succ, List.getElem?_nil, Option.join_some, Option.join_none, List.getD_cons_zero, List.getD_cons_succ, List.getD_nil, Nat.reduceAdd, Nat.reduceLT, Nat.reduceEqDiff, Nat.zero_add, reduceIte, if_true, if_false, and_true, true_and, renL_vcells, allL_vcells, renL_pv, leBlk_some, eq_self, true_or, or_true, reduceCtorEq, false_or, allL, Ty.tc, ii, encL_len, c0, sat1, List.map_nil, ndsL, dpwL, Nat.add_zero, List.length_nil, Int.natCast_zero, Int.ofNat_zero])) (OLe.refl _) (ext_rows (s := s) (σ := σ) (good_len hg) (fun a ha E' hE' => ?_) (fun fr E2 hE2 g12 g6 => hK _ _ _ ?_) t.args [] E rfl hE)
        · obtain ⟨na, ra, hra⟩ := hσ.hd a (good_mem hg ha)
          refine ihN na a ra E' (good_mem hg ha) ?_ hra hE'
          have := nds_memS (σ := σ) ha
          rw [happ] at hN
          simp only [nds] at hN
          omega
        · (repeat' (first|((with_reducible refine aopsO_cons' fun C hC=>?_);simp only [go_sem, g12, g6];((with_reducible refine finO hC ?_);clear hC C))|((with_reducible refine aopsO_ob' fun C hC=>?_);simp only [go_sem, g12, g6];((with_reducible refine finOb hC ?_);clear hC C))|((with_reducible refine aopsDO_cons' fun C hC=>?_);simp only [go_sem, g12, g6];((with_reducible refine finDO hC ?_);clear hC C))|((with_reducible refine aopsDO_ob' ?_ fun C hC=>?_);(focus rfl);simp only [go_sem, g12, g6];((with_reducible refine finDOb hC ?_);clear hC C))|(with_reducible first|refine awpO_seq_k fun K hK=>?_|refine awpO_reg_k fun K hK=>?_|refine awpO_dreg_k fun K hK=>?_|(refine aopsO_nil ?_;refine hK _ _ _ ?_;try clear hK K)|(refine aopsDO_nil ?_;refine hK _ _ _ _ ?_ ?_;(focus kernel_rfl);try clear hK K)|(refine thnO_normal ?_;refine hK _ _ _ ?_;try clear hK K)|refine catchO_normal ?_|refine awpO_skip_k ?_|refine awpO_ret_k ?_|refine awpO_exit_k ?_|refine awpO_block_k ?_|(refine thnO_exit ?_;try clear hK K)|(refine thnO_ret ?_;try clear hK K)|refine catchO_ret ?_|refine catchO_exit ?_|(refine catchO_other ?_ ?_;focus decide))|((with_reducible first|apply aopsO_guard'|apply aopsDO_guard'|apply awpO_cond_g);focus (simp only [go_sem, g12, g6];exact rfl))|(with_reducible first|refine gk_tt ?_|refine gk_ff ?_|refine ck_t ?_|refine ck_f ?_)|((with_reducible first|refine gk_tf ?_|refine gk_ft ?_|refine gk_u ?_|refine gk_u' ?_);first|(intro _ e;(first|rw [qqY] at e|rw [qqZ] at e);subst e)|(intro _ _ e e';(first|rw [qqY] at e|rw [qqZ] at e);subst e;subst e'))))
          refine retPO_ret (vs := [.agg [.pv (ii (sat (1 + ndsL (t.args.map σ) : Nat))), .pv (ii (IntKind.i64.wrap (dpwL (t.args.map σ) 0 + 1)))]]) (ps := [exW (exA (σ t))]) (List.range 40) (by simp [resVs, resV, Go.Ab.get, g6, hget, mkv]) ?_ (OLe.refl _) ⟨E2, hE2, rfl, rfl⟩
          rw [happ, exA_mk]
          exact vwA
      | true =>
        have hk' : t.kd = 1 := by simpa using hk
        obtain ⟨e1, e2⟩ := good_var hg hk'
        cases hl : lkE E t.id with
        | some e =>
          have he := lkE_inv hE hl
          rw [← e1] at he
          (repeat' (first|((with_reducible refine aopsO_cons' fun C hC=>?_);simp only [go_sem, cells_enc, pcells_enc, enc_eq, Ty.tc, hk, h3, lkm_E, hl, Option.map_some, Option.getD_some, Option.isSome_some];((with_reducible refine finO hC ?_);clear hC C))|((with_reducible refine aopsO_ob' fun C hC=>?_);simp only [go_sem, cells_enc, pcells_enc, enc_eq, Ty.tc, hk, h3, lkm_E, hl, Option.map_some, Option.getD_some, Option.isSome_some];((with_reducible refine finOb hC ?_);clear hC C))|((with_reducible refine aopsDO_cons' fun C hC=>?_);simp only [go_sem, cells_enc, pcells_enc, enc_eq, Ty.tc, hk, h3, lkm_E, hl, Option.map_some, Option.getD_some, Option.isSome_some];((with_reducible refine finDO hC ?_);clear hC C))|((with_reducible refine aopsDO_ob' ?_ fun C hC=>?_);(focus rfl);simp only [go_sem, cells_enc, pcells_enc, enc_eq, Ty.tc, hk, h3, lkm_E, hl, Option.map_some, Option.getD_some, Option.isSome_some];((with_reducible refine finDOb hC ?_);clear hC C))|(with_reducible first|refine awpO_seq_k fun K hK=>?_|refine awpO_reg_k fun K hK=>?_|refine awpO_dreg_k fun K hK=>?_|(refine aopsO_nil ?_;refine hK _ _ _ ?_;try clear hK K)|(refine aopsDO_nil ?_;refine hK _ _ _ _ ?_ ?_;(focus kernel_rfl);try clear hK K)|(refine thnO_normal ?_;refine hK _ _ _ ?_;try clear hK K)|refine catchO_normal ?_|refine awpO_skip_k ?_|refine awpO_ret_k ?_|refine awpO_exit_k ?_|refine awpO_block_k ?_|(refine thnO_exit ?_;try clear hK K)|(refine thnO_ret ?_;try clear hK K)|refine catchO_ret ?_|refine catchO_exit ?_|(refine catchO_other ?_ ?_;focus decide))|((with_reducible first|apply aopsO_guard'|apply aopsDO_guard'|apply awpO_cond_g);focus (simp only [go_sem, cells_enc, pcells_enc, enc_eq, Ty.tc, hk, h3, lkm_E, hl, Option.map_some, Option.getD_some, Option.isSome_some];exact rfl))|(with_reducible first|refine gk_tt ?_|refine gk_ff ?_|refine ck_t ?_|refine ck_f ?_)|((with_reducible first|refine gk_tf ?_|refine gk_ft ?_|refine gk_u ?_|refine gk_u' ?_);first|(intro _ e;(first|rw [qqY] at e|rw [qqZ] at e);subst e)|(intro _ _ e e';(first|rw [qqY] at e|rw [qqZ] at e);subst e;subst e'))))
          refine retPO_ret (ps := [exW e]) (List.range 40) rfl ?_ (OLe.refl _) ⟨E, hE, by rw [he]; rfl, rfl⟩
          exact vwA
        | none =>
        simp only [hdN, hk, if_true] at hh
        cases hb : lk L t.id with
        | none =>
          (repeat' (first|((with_reducible refine aopsO_cons' fun C hC=>?_);simp only [go_sem, cells_enc, pcells_enc, enc_eq, Ty.tc, hk, h1, h2, h3, lkm_E, hl, lkm_enc, hb, Option.map_none, Option.getD_none, Option.isSome_none];((with_reducible refine finO hC ?_);clear hC C))|((with_reducible refine aopsO_ob' fun C hC=>?_);simp only [go_sem, cells_enc, pcells_enc, enc_eq, Ty.tc, hk, h1, h2, h3, lkm_E, hl, lkm_enc, hb, Option.map_none, Option.getD_none, Option.isSome_none];((with_reducible refine finOb hC ?_);clear hC C))|((with_reducible refine aopsDO_cons' fun C hC=>?_);simp only [go_sem, cells_enc, pcells_enc, enc_eq, Ty.tc, hk, h1, h2, h3, lkm_E, hl, lkm_enc, hb, Option.map_none, Option.getD_none, Option.isSome_none];((with_reducible refine finDO hC ?_);clear hC C))|((with_reducible refine aopsDO_ob' ?_ fun C hC=>?_);(focus rfl);simp only [go_sem, cells_enc, pcells_enc, enc_eq, Ty.tc, hk, h1, h2, h3, lkm_E, hl, lkm_enc, hb, Option.map_none, Option.getD_none, Option.isSome_none];((with_reducible refine finDOb hC ?_);clear hC C))|(with_reducible first|refine awpO_seq_k fun K hK=>?_|refine awpO_reg_k fun K hK=>?_|refine awpO_dreg_k fun K hK=>?_|(refine aopsO_nil ?_;refine hK _ _ _ ?_;try clear hK K)|(refine aopsDO_nil ?_;refine hK _ _ _ _ ?_ ?_;(focus kernel_rfl);try clear hK K)|(refine thnO_normal ?_;refine hK _ _ _ ?_;try clear hK K)|refine catchO_normal ?_|refine awpO_skip_k ?_|refine awpO_ret_k ?_|refine awpO_exit_k ?_|refine awpO_block_k ?_|(refine thnO_exit ?_;try clear hK K)|(refine thnO_ret ?_;try clear hK K)|refine catchO_ret ?_|refine catchO_exit ?_|(refine catchO_other ?_ ?_;focus decide))|((with_reducible first|apply aopsO_guard'|apply aopsDO_guard'|apply awpO_cond_g);focus (simp only [go_sem, cells_enc, pcells_enc, enc_eq, Ty.tc, hk, h1, h2, h3, lkm_E, hl, lkm_enc, hb, Option.map_none, Option.getD_none, Option.isSome_none];exact rfl))|(with_reducible first|refine gk_tt ?_|refine gk_ff ?_|refine ck_t ?_|refine ck_f ?_)|((with_reducible first|refine gk_tf ?_|refine gk_ft ?_|refine gk_u ?_|refine gk_u' ?_);first|(intro _ e;(first|rw [qqY] at e|rw [qqZ] at e);subst e)|(intro _ _ e e';(first|rw [qqY] at e|rw [qqZ] at e);subst e;subst e'))))
          have hf : exA (σ t) = (1, 1) := by rw [hσ.free t hg hk' hb, e1, exA_mk]; decide
          refine retPO_ret (ps := [exW (1, 1)]) (List.range 40) rfl ?_ (OLe.refl _) ⟨E, hE, by rw [hf]; rfl, rfl⟩
          exact vwA
        | some u =>
          rw [hb] at hh
          obtain ⟨hu, gu⟩ := hσ.bound t u hk' hb
          have hc := ih u r E gu (by rw [← hu]; exact hN) hh hE
          (repeat' (first|((with_reducible refine aopsO_call0 hc ?_ ?_ ?_);(focus (simp only [go_sem];done));(focus (simp only [go_sem, enc_eq];done));rintro _ _ _ ⟨E2, hE2, rfl, rfl⟩ e;(first|rw [qqY] at e|rw [qqZ] at e);subst e)|((with_reducible refine aopsO_cons' fun C hC=>?_);simp only [go_sem, cells_enc, pcells_enc, enc_eq, Ty.tc, hk, h1, h2, h3, lkm_E, hl, lkm_enc, hb, Option.map_none, Option.getD_none, Option.isSome_none, Option.map_some, Option.getD_some, Option.isSome_some];((with_reducible refine finO hC ?_);clear hC C))|((with_reducible refine aopsO_ob' fun C hC=>?_);simp only [go_sem, cells_enc, pcells_enc, enc_eq, Ty.tc, hk, h1, h2, h3, lkm_E, hl, lkm_enc, hb, Option.map_none, Option.getD_none, Option.isSome_none, Option.map_some, Option.getD_some, Option.isSome_some];((with_reducible refine finOb hC ?_);clear hC C))|((with_reducible refine aopsDO_cons' fun C hC=>?_);simp only [go_sem, cells_enc, pcells_enc, enc_eq, Ty.tc, hk, h1, h2, h3, lkm_E, hl, lkm_enc, hb, Option.map_none, Option.getD_none, Option.isSome_none, Option.map_some, Option.getD_some, Option.isSome_some];((with_reducible refine finDO hC ?_);clear hC C))|((with_reducible refine aopsDO_ob' ?_ fun C hC=>?_);(focus rfl);simp only [go_sem, cells_enc, pcells_enc, enc_eq, Ty.tc, hk, h1, h2, h3, lkm_E, hl, lkm_enc, hb, Option.map_none, Option.getD_none, Option.isSome_none, Option.map_some, Option.getD_some, Option.isSome_some];((with_reducible refine finDOb hC ?_);clear hC C))|(with_reducible first|refine awpO_seq_k fun K hK=>?_|refine awpO_reg_k fun K hK=>?_|refine awpO_dreg_k fun K hK=>?_|(refine aopsO_nil ?_;refine hK _ _ _ ?_;try clear hK K)|(refine aopsDO_nil ?_;refine hK _ _ _ _ ?_ ?_;(focus kernel_rfl);try clear hK K)|(refine thnO_normal ?_;refine hK _ _ _ ?_;try clear hK K)|refine catchO_normal ?_|refine awpO_skip_k ?_|refine awpO_ret_k ?_|refine awpO_exit_k ?_|refine awpO_block_k ?_|(refine thnO_exit ?_;try clear hK K)|(refine thnO_ret ?_;try clear hK K)|refine catchO_ret ?_|refine catchO_exit ?_|(refine catchO_other ?_ ?_;focus decide))|((with_reducible first|apply aopsO_guard'|apply aopsDO_guard'|apply awpO_cond_g);focus (simp only [go_sem, cells_enc, pcells_enc, enc_eq, Ty.tc, hk, h1, h2, h3, lkm_E, hl, lkm_enc, hb, Option.map_none, Option.getD_none, Option.isSome_none, Option.map_some, Option.getD_some, Option.isSome_some];exact rfl))|(with_reducible first|refine gk_tt ?_|refine gk_ff ?_|refine ck_t ?_|refine ck_f ?_)|((with_reducible first|refine gk_tf ?_|refine gk_ft ?_|refine gk_u ?_|refine gk_u' ?_);first|(intro _ e;(first|rw [qqY] at e|rw [qqZ] at e);subst e)|(intro _ _ e e';(first|rw [qqY] at e|rw [qqZ] at e);subst e;subst e'))))
          obtain ⟨E3, hE3, hm⟩ := mins_E (σ := σ) (a := t.id) (e := exA (σ u)) (by rw [← hu, ← e1]) hE2
          refine aopsO_mupd (exW (exA (σ u))) rfl rfl (oupd_same _ _ _) vwA fun fr' e => ?_
          rw [qqZ] at e
          subst e
          rw [hm, oupd_oupd]
          (repeat' (first|((with_reducible refine aopsO_cons' fun C hC=>?_);simp only [go_sem];((with_reducible refine finO hC ?_);clear hC C))|((with_reducible refine aopsO_ob' fun C hC=>?_);simp only [go_sem];((with_reducible refine finOb hC ?_);clear hC C))|((with_reducible refine aopsDO_cons' fun C hC=>?_);simp only [go_sem];((with_reducible refine finDO hC ?_);clear hC C))|((with_reducible refine aopsDO_ob' ?_ fun C hC=>?_);(focus rfl);simp only [go_sem];((with_reducible refine finDOb hC ?_);clear hC C))|(with_reducible first|refine awpO_seq_k fun K hK=>?_|refine awpO_reg_k fun K hK=>?_|refine awpO_dreg_k fun K hK=>?_|(refine aopsO_nil ?_;refine hK _ _ _ ?_;try clear hK K)|(refine aopsDO_nil ?_;refine hK _ _ _ _ ?_ ?_;(focus kernel_rfl);try clear hK K)|(refine thnO_normal ?_;refine hK _ _ _ ?_;try clear hK K)|refine catchO_normal ?_|refine awpO_skip_k ?_|refine awpO_ret_k ?_|refine awpO_exit_k ?_|refine awpO_block_k ?_|(refine thnO_exit ?_;try clear hK K)|(refine thnO_ret ?_;try clear hK K)|refine catchO_ret ?_|refine catchO_exit ?_|(refine catchO_other ?_ ?_;focus decide))|((with_reducible first|apply aopsO_guard'|apply aopsDO_guard'|apply awpO_cond_g);focus (simp only [go_sem];exact rfl))|(with_reducible first|refine gk_tt ?_|refine gk_ff ?_|refine ck_t ?_|refine ck_f ?_)|((with_reducible first|refine gk_tf ?_|refine gk_ft ?_|refine gk_u ?_|refine gk_u' ?_);first|(intro _ e;(first|rw [qqY] at e|rw [qqZ] at e);subst e)|(intro _ _ e e';(first|rw [qqY] at e|rw [qqZ] at e);subst e;subst e'))))
          refine retPO_ret (ps := [exW (exA (σ u))]) (List.range 40) rfl ?_ (OLe.refl _) ⟨E3, hE3, by rw [hu]; rfl, rfl⟩
          exact vwA
end Go.Proofs.Ytiediojibljpiaa
