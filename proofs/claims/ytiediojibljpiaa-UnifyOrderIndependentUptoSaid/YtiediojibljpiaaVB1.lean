/- B1: joined from ZU1. -/
import Derived.Test.YtiediojibljpiaaVFnU
import Derived.Test.YtiediojibljpiaaVA2
import Derived.Test.YtiediojibljpiaaVZ5
/- Solver.Head: the model, the walk. -/
set_option maxRecDepth 10000
set_option linter.unusedSimpArgs false
set_option linter.unusedVariables false
namespace Go.Proofs.Ytiediojibljpiaa
open Go Go.Ab
abbrev SB := List (Int × Ty)
def lk : SB → Int → Option Ty
  | [], _ => none
  | (k, t) :: l, a => if a = k then some t else lk l a
def insB : SB → Int → Ty → SB
  | [], a, p => [(a, p)]
  | (k, q) :: l, a, p => if a = k then (a, p) :: l else (k, q) :: insB l a p
def encM (L : SB) : List (Int × PV) := L.map fun x => (x.1, x.2.enc)
theorem lkm_enc : ∀ (L : SB) (a : Int), lkm (encM L) a = (lk L a).map Ty.enc
  | [], a => rfl
  | (k, t) :: L, a => by
    simp only [encM, List.map_cons, lkm, lk]
    split
    · rfl
    · exact lkm_enc L a
theorem mins_enc : ∀ (L : SB) (a : Int) (t : Ty), mins (encM L) a t.enc = encM (insB L a t)
  | [], a, t => rfl
  | (k, q) :: L, a, t => by
    simp only [encM, List.map_cons, mins, insB]
    split
    · rfl
    · simp only [List.map_cons]; rw [← encM, ← encM, mins_enc]
abbrev pS (s : Nat) : PV := .lit (.pointer (some ⟨s, 0, none⟩))
abbrev pM (m : Nat) : PV := .lit (.map (some m))
def svO (m : Nat) (p : Int) : OB := .cells 60 [pM m, ii p]
/-- the solver stands at s, its bindings at m -/
def SolO (O : OS) (s m : Nat) (p : Int) (L : SB) : Prop := O s = some (svO m p) ∧ O m = some (.mp (encM L))
theorem SolO.ne {O : OS} {s m : Nat} {p : Int} {L : SB} (h : SolO O s m p L) : s ≠ m := fun e => by
  have h1 := h.1; rw [e, h.2] at h1; simp [svO] at h1
def hdN : Nat → SB → Ty → Option Ty
  | 0, _, _ => none
  | n + 1, L, t => if t.kd == 1 then match lk L t.id with
    | none => some t
    | some u => hdN n L u
    else some t
def OIs (R : PV) (O1 : OS) : PV → OS → Prop := fun r O' => r = R ∧ O' = O1
set_option maxHeartbeats 4000000 in
theorem head_rows {s m : Nat} {p : Int} {L : SB} {O : OS} (hO : SolO O s m p L) (r : Ty) {K : Fr → Hp → OS → Prop} {Q : PostO} (hN : ∀ fr T, Ab.get fr 3 = .ptr 0 0 0 → Ab.get fr 4 = .ptr 1 0 0 → K fr (some ⟨false, 29, 3, [r.tc], none⟩ :: some ⟨false, 29, 3, [[.pv (ii 0), .pv (ii 0), .pv (.lit (.slice none 0 0))]], none⟩ :: T) O) :
    ∀ (n : Nat) (t : Ty), hdN n L t = some r → loopNO (awpO Try.prog ac63_l0) (catchO 0 (thnO K Q)) n [(4, .ptr 1 0 0), (3, .ptr 0 0 0), (0, .pv (pS s))] [some ⟨false, 29, 3, [t.tc], none⟩, some ⟨false, 29, 3, [[.pv (ii 0), .pv (ii 0), .pv (.lit (.slice none 0 0))]], none⟩] O := by
  obtain ⟨h1, h2⟩ := hO
  unfold svO at h1
  intro n
  induction n with
  | zero => intro t he; cases he
  | succ n ih =>
    intro t he
    simp only [hdN] at he
    cases hk : (t.kd == 1) with
    | false =>
      rw [hk, if_neg (by decide)] at he
      cases he
      refine loopNO_k fun K1 hK1 => ?_
      unfold ac63_l0
      (repeat' (first|((with_reducible refine aopsO_cons' fun C hC=>?_);simp only [go_sem, Ty.tc, hk];((with_reducible refine finO hC ?_);clear hC C))|((with_reducible refine aopsO_ob' fun C hC=>?_);simp only [go_sem, Ty.tc, hk];((with_reducible refine finOb hC ?_);clear hC C))|((with_reducible refine aopsDO_cons' fun C hC=>?_);simp only [go_sem, Ty.tc, hk];((with_reducible refine finDO hC ?_);clear hC C))|((with_reducible refine aopsDO_ob' ?_ fun C hC=>?_);(focus rfl);simp only [go_sem, Ty.tc, hk];((with_reducible refine finDOb hC ?_);clear hC C))|(with_reducible first|refine awpO_seq_k fun K hK=>?_|refine awpO_reg_k fun K hK=>?_|refine awpO_dreg_k fun K hK=>?_|(refine aopsO_nil ?_;refine hK _ _ _ ?_;try clear hK K)|(refine aopsDO_nil ?_;refine hK _ _ _ _ ?_ ?_;(focus kernel_rfl);try clear hK K)|(refine thnO_normal ?_;refine hK _ _ _ ?_;try clear hK K)|refine catchO_normal ?_|refine awpO_skip_k ?_|refine awpO_ret_k ?_|refine awpO_exit_k ?_|refine awpO_block_k ?_|(refine thnO_exit ?_;try clear hK K)|(refine thnO_ret ?_;try clear hK K)|refine catchO_ret ?_|refine catchO_exit ?_|(refine catchO_other ?_ ?_;focus decide))|((with_reducible first|apply aopsO_guard'|apply aopsDO_guard'|apply awpO_cond_g);focus (simp only [go_sem, Ty.tc, hk];exact rfl))|(with_reducible first|refine gk_tt ?_|refine gk_ff ?_|refine ck_t ?_|refine ck_f ?_)|((with_reducible first|refine gk_tf ?_|refine gk_ft ?_|refine gk_u ?_|refine gk_u' ?_);first|(intro _ e;(first|rw [qqY] at e|rw [qqZ] at e);subst e)|(intro _ _ e e';(first|rw [qqY] at e|rw [qqZ] at e);subst e;subst e'))))
      exact hN _ _ rfl rfl
    | true =>
      rw [hk, if_pos rfl] at he
      refine loopNO_k fun K1 hK1 => ?_
      unfold ac63_l0
      cases hl : lk L t.id with
      | none =>
        rw [hl] at he; cases he
        (repeat' (first|((with_reducible refine aopsO_cons' fun C hC=>?_);simp only [go_sem, Ty.tc, hk, h1, h2, lkm_enc, hl, Option.map_none, Option.getD_none, Option.isSome_none];((with_reducible refine finO hC ?_);clear hC C))|((with_reducible refine aopsO_ob' fun C hC=>?_);simp only [go_sem, Ty.tc, hk, h1, h2, lkm_enc, hl, Option.map_none, Option.getD_none, Option.isSome_none];((with_reducible refine finOb hC ?_);clear hC C))|((with_reducible refine aopsDO_cons' fun C hC=>?_);simp only [go_sem, Ty.tc, hk, h1, h2, lkm_enc, hl, Option.map_none, Option.getD_none, Option.isSome_none];((with_reducible refine finDO hC ?_);clear hC C))|((with_reducible refine aopsDO_ob' ?_ fun C hC=>?_);(focus rfl);simp only [go_sem, Ty.tc, hk, h1, h2, lkm_enc, hl, Option.map_none, Option.getD_none, Option.isSome_none];((with_reducible refine finDOb hC ?_);clear hC C))|(with_reducible first|refine awpO_seq_k fun K hK=>?_|refine awpO_reg_k fun K hK=>?_|refine awpO_dreg_k fun K hK=>?_|(refine aopsO_nil ?_;refine hK _ _ _ ?_;try clear hK K)|(refine aopsDO_nil ?_;refine hK _ _ _ _ ?_ ?_;(focus kernel_rfl);try clear hK K)|(refine thnO_normal ?_;refine hK _ _ _ ?_;try clear hK K)|refine catchO_normal ?_|refine awpO_skip_k ?_|refine awpO_ret_k ?_|refine awpO_exit_k ?_|refine awpO_block_k ?_|(refine thnO_exit ?_;try clear hK K)|(refine thnO_ret ?_;try clear hK K)|refine catchO_ret ?_|refine catchO_exit ?_|(refine catchO_other ?_ ?_;focus decide))|((with_reducible first|apply aopsO_guard'|apply aopsDO_guard'|apply awpO_cond_g);focus (simp only [go_sem, Ty.tc, hk, h1, h2, lkm_enc, hl, Option.map_none, Option.getD_none, Option.isSome_none];exact rfl))|(with_reducible first|refine gk_tt ?_|refine gk_ff ?_|refine ck_t ?_|refine ck_f ?_)|((with_reducible first|refine gk_tf ?_|refine gk_ft ?_|refine gk_u ?_|refine gk_u' ?_);first|(intro _ e;(first|rw [qqY] at e|rw [qqZ] at e);subst e)|(intro _ _ e e';(first|rw [qqY] at e|rw [qqZ] at e);subst e;subst e'))))
        exact hN _ _ rfl rfl
      | some u =>
        rw [hl] at he
        (repeat' (first|((with_reducible refine aopsO_cons' fun C hC=>?_);simp only [go_sem, Ty.tc, hk, h1, h2, lkm_enc, hl, Option.map_some, Option.getD_some, Option.isSome_some, cells_enc, enc_eq];((with_reducible refine finO hC ?_);clear hC C))|((with_reducible refine aopsO_ob' fun C hC=>?_);simp only [go_sem, Ty.tc, hk, h1, h2, lkm_enc, hl, Option.map_some, Option.getD_some, Option.isSome_some, cells_enc, enc_eq];((with_reducible refine finOb hC ?_);clear hC C))|((with_reducible refine aopsDO_cons' fun C hC=>?_);simp only [go_sem, Ty.tc, hk, h1, h2, lkm_enc, hl, Option.map_some, Option.getD_some, Option.isSome_some, cells_enc, enc_eq];((with_reducible refine finDO hC ?_);clear hC C))|((with_reducible refine aopsDO_ob' ?_ fun C hC=>?_);(focus rfl);simp only [go_sem, Ty.tc, hk, h1, h2, lkm_enc, hl, Option.map_some, Option.getD_some, Option.isSome_some, cells_enc, enc_eq];((with_reducible refine finDOb hC ?_);clear hC C))|(with_reducible first|refine awpO_seq_k fun K hK=>?_|refine awpO_reg_k fun K hK=>?_|refine awpO_dreg_k fun K hK=>?_|(refine aopsO_nil ?_;refine hK _ _ _ ?_;try clear hK K)|(refine aopsDO_nil ?_;refine hK _ _ _ _ ?_ ?_;(focus kernel_rfl);try clear hK K)|(refine thnO_normal ?_;refine hK _ _ _ ?_;try clear hK K)|refine catchO_normal ?_|refine awpO_skip_k ?_|refine awpO_ret_k ?_|refine awpO_exit_k ?_|refine awpO_block_k ?_|(refine thnO_exit ?_;try clear hK K)|(refine thnO_ret ?_;try clear hK K)|refine catchO_ret ?_|refine catchO_exit ?_|(refine catchO_other ?_ ?_;focus decide))|((with_reducible first|apply aopsO_guard'|apply aopsDO_guard'|apply awpO_cond_g);focus (simp only [go_sem, Ty.tc, hk, h1, h2, lkm_enc, hl, Option.map_some, Option.getD_some, Option.isSome_some, cells_enc, enc_eq];exact rfl))|(with_reducible first|refine gk_tt ?_|refine gk_ff ?_|refine ck_t ?_|refine ck_f ?_)|((with_reducible first|refine gk_tf ?_|refine gk_ft ?_|refine gk_u ?_|refine gk_u' ?_);first|(intro _ e;(first|rw [qqY] at e|rw [qqZ] at e);subst e)|(intro _ _ e e';(first|rw [qqY] at e|rw [qqZ] at e);subst e;subst e'))))
        refine hK1 _ _ _ _ _ _ _ (LeB [0, 1] (by refine ⟨?_, ?_, ?_⟩ <;> simp only [leFr, leFb, leHp, V.ren, V.renL, V.bd, V.bdL, allL, lt, Go.Ab.get, hget, List.map_cons, List.map_nil, List.length_cons, List.length_nil, List.length_append, List.getElem?_cons_zero, List.getElem?_cons_succ, List.getElem?_nil, Option.join_some, Option.join_none, List.getD_cons_zero, List.getD_cons_succ, List.getD_nil, Nat.reduceAdd, Nat.reduceLT, Nat.reduceEqDiff, Nat.zero_add, reduceIte, if_true, if_false, and_true, true_and, renL_vcells, allL_vcells, renL_pv, leBlk_some, eq_self, true_or, or_true, reduceCtorEq, false_or, allL, Ty.tc])) (OLe.refl _) (ih u he)
set_option maxHeartbeats 4000000 in
theorem head_ok {s m : Nat} {p : Int} {L : SB} {O : OS} (hO : SolO O s m p L) {n : Nat} {t r : Ty} (h : hdN n L t = some r) : OCall Try.prog 63 [pS s, t.enc] O (OIs r.enc O) := by
  refine OCall.intro fn63 (by simp) ?_
  unfold ac63
  simp only [argFr]
  (repeat' (first|((with_reducible refine aopsO_cons' fun C hC=>?_);simp only [go_sem, cells_enc, Ty.tc];((with_reducible refine finO hC ?_);clear hC C))|((with_reducible refine aopsO_ob' fun C hC=>?_);simp only [go_sem, cells_enc, Ty.tc];((with_reducible refine finOb hC ?_);clear hC C))|((with_reducible refine aopsDO_cons' fun C hC=>?_);simp only [go_sem, cells_enc, Ty.tc];((with_reducible refine finDO hC ?_);clear hC C))|((with_reducible refine aopsDO_ob' ?_ fun C hC=>?_);(focus rfl);simp only [go_sem, cells_enc, Ty.tc];((with_reducible refine finDOb hC ?_);clear hC C))|(with_reducible first|refine awpO_seq_k fun K hK=>?_|refine awpO_reg_k fun K hK=>?_|refine awpO_dreg_k fun K hK=>?_|(refine aopsO_nil ?_;refine hK _ _ _ ?_;try clear hK K)|(refine aopsDO_nil ?_;refine hK _ _ _ _ ?_ ?_;(focus kernel_rfl);try clear hK K)|(refine thnO_normal ?_;refine hK _ _ _ ?_;try clear hK K)|refine catchO_normal ?_|refine awpO_skip_k ?_|refine awpO_ret_k ?_|refine awpO_exit_k ?_|refine awpO_block_k ?_|(refine thnO_exit ?_;try clear hK K)|(refine thnO_ret ?_;try clear hK K)|refine catchO_ret ?_|refine catchO_exit ?_|(refine catchO_other ?_ ?_;focus decide))|((with_reducible first|apply aopsO_guard'|apply aopsDO_guard'|apply awpO_cond_g);focus (simp only [go_sem, cells_enc, Ty.tc];exact rfl))|(with_reducible first|refine gk_tt ?_|refine gk_ff ?_|refine ck_t ?_|refine ck_f ?_)|((with_reducible first|refine gk_tf ?_|refine gk_ft ?_|refine gk_u ?_|refine gk_u' ?_);first|(intro _ e;(first|rw [qqY] at e|rw [qqZ] at e);subst e)|(intro _ _ e e';(first|rw [qqY] at e|rw [qqZ] at e);subst e;subst e'))))
  refine awpO_loop_k _ (LeB [0, 1] (by refine ⟨?_, ?_, ?_⟩ <;> simp only [leFr, leFb, leHp, V.ren, V.renL, V.bd, V.bdL, allL, lt, Go.Ab.get, hget, List.map_cons, List.map_nil, List.length_cons, List.length_nil, List.length_append, List.getElem?_cons_zero, List.getElem?_cons_succ, List.getElem?_nil, Option.join_some, Option.join_none, List.getD_cons_zero, List.getD_cons_succ, List.getD_nil, Nat.reduceAdd, Nat.reduceLT, Nat.reduceEqDiff, Nat.zero_add, reduceIte, if_true, if_false, and_true, true_and, renL_vcells, allL_vcells, renL_pv, leBlk_some, eq_self, true_or, or_true, reduceCtorEq, false_or, allL, Ty.tc])) (OLe.refl _) (head_rows hO r (fun fr T g3 g4 => hK _ _ _ ?_) n t h)
  (repeat' (first|((with_reducible refine aopsO_cons' fun C hC=>?_);simp only [go_sem, g3, g4, Ty.tc, spl];((with_reducible refine finO hC ?_);clear hC C))|((with_reducible refine aopsO_ob' fun C hC=>?_);simp only [go_sem, g3, g4, Ty.tc, spl];((with_reducible refine finOb hC ?_);clear hC C))|((with_reducible refine aopsDO_cons' fun C hC=>?_);simp only [go_sem, g3, g4, Ty.tc, spl];((with_reducible refine finDO hC ?_);clear hC C))|((with_reducible refine aopsDO_ob' ?_ fun C hC=>?_);(focus rfl);simp only [go_sem, g3, g4, Ty.tc, spl];((with_reducible refine finDOb hC ?_);clear hC C))|(with_reducible first|refine awpO_seq_k fun K hK=>?_|refine awpO_reg_k fun K hK=>?_|refine awpO_dreg_k fun K hK=>?_|(refine aopsO_nil ?_;refine hK _ _ _ ?_;try clear hK K)|(refine aopsDO_nil ?_;refine hK _ _ _ _ ?_ ?_;(focus kernel_rfl);try clear hK K)|(refine thnO_normal ?_;refine hK _ _ _ ?_;try clear hK K)|refine catchO_normal ?_|refine awpO_skip_k ?_|refine awpO_ret_k ?_|refine awpO_exit_k ?_|refine awpO_block_k ?_|(refine thnO_exit ?_;try clear hK K)|(refine thnO_ret ?_;try clear hK K)|refine catchO_ret ?_|refine catchO_exit ?_|(refine catchO_other ?_ ?_;focus decide))|((with_reducible first|apply aopsO_guard'|apply aopsDO_guard'|apply awpO_cond_g);focus (simp only [go_sem, g3, g4, Ty.tc, spl];exact rfl))|(with_reducible first|refine gk_tt ?_|refine gk_ff ?_|refine ck_t ?_|refine ck_f ?_)|((with_reducible first|refine gk_tf ?_|refine gk_ft ?_|refine gk_u ?_|refine gk_u' ?_);first|(intro _ e;(first|rw [qqY] at e|rw [qqZ] at e);subst e)|(intro _ _ e e';(first|rw [qqY] at e|rw [qqZ] at e);subst e;subst e'))))
  refine retPO_ret (vs := [.agg r.tc]) (ps := [r.enc]) (List.range 40) (by simp [resVs, resV, Go.Ab.get, g4, hget, mkv, Ty.tc]) (.cons _ _ _ _ (Vw_enc r) .nil) (OLe.refl _) ⟨rfl, rfl⟩
end Go.Proofs.Ytiediojibljpiaa
