/- B6: joined from ZU6. -/
import Derived.Test.YtiediojibljpiaaVFnU
import Derived.Test.YtiediojibljpiaaVB5
/- unify.Unify: equations, the checks ahead, the loop over the equations. -/
set_option maxRecDepth 10000
set_option linter.unusedSimpArgs false
set_option linter.unusedVariables false
namespace Go.Proofs.Ytiediojibljpiaa
open Go Go.Ab
structure Eqn where
  l : Ty
  r : Ty
def Eqn.enc (e : Eqn) : PV := .agg [ii e.l.kd, ii e.l.id, .list 3 (encL e.l.args), ii e.r.kd, ii e.r.id, .list 3 (encL e.r.args)]
def encQ (es : List Eqn) : List PV := es.map Eqn.enc
theorem encQ_len (ts : List Eqn) : (encQ ts).length = ts.length := by simp [encQ]
theorem encQ_at (ts us : List Eqn) (t : Eqn) : (encQ (ts ++ t :: us))[ts.length]? = some t.enc := by simp [encQ]
theorem pcells_eqn (e : Eqn) : e.enc.cells = [ii e.l.kd, ii e.l.id, .list 3 (encL e.l.args), ii e.r.kd, ii e.r.id, .list 3 (encL e.r.args)] := rfl
theorem cells_eqn (e : Eqn) : (V.pv e.enc).cells? = some [.pv (ii e.l.kd), .pv (ii e.l.id), .pv (.list 3 (encL e.l.args)), .pv (ii e.r.kd), .pv (ii e.r.id), .pv (.list 3 (encL e.r.args))] := rfl
theorem enc_eqn (e : Eqn) : e.enc = .agg [ii e.l.kd, ii e.l.id, .list 3 (encL e.l.args), ii e.r.kd, ii e.r.id, .list 3 (encL e.r.args)] := rfl
set_option maxHeartbeats 1000000 in
theorem idxQ_ok (fid : FuncId) (caps : List PV) (p : Eqn → Bool) (ts : List Eqn) (hp : ∀ t ∈ ts, PCall Try.prog fid ([Eqn.enc t] ++ caps) (bb (p t))) : PCall Try.prog 59 [.list 6 (encQ ts), .fn fid caps] (ii (idxF p ts 0)) := by
  refine PCall.intro' (ps := [ii (idxF p ts 0)]) fn59 (by simp) fun hok => ?_
  have hss : ts.length ≤ 1099511627776 := by
    simp only [PV.okL, PV.ok, encQ_len, big] at hok; exact hok.1.1
  clear hok
  unfold ac59
  simp only [argFr]
  (repeat' (first|((with_reducible first|refine qqT fun C hC=>?_|refine qqU fun C hC=>?_|intro C hC);simp only [go_sem, encQ_len];((with_reducible first|refine finA hC ?_|refine finD hC ?_);clear hC C))|(with_reducible first|refine qqA fun K hK=>?_|refine qqB fun K hK=>?_|refine qqC fun K hK=>?_|(refine qqD ?_;refine hK _ _ ?_;try clear hK K)|(refine qqE ?_;refine hK _ _ _ ?_ ?_;(focus kernel_rfl);try clear hK K)|(refine qqF ?_;refine hK _ _ ?_;try clear hK K)|refine qqG ?_|refine qqH ?_|refine qqI ?_|refine qqJ ?_|refine qqK ?_|(refine qqL ?_;try clear hK K)|(refine qqM ?_;try clear hK K)|refine qqN ?_|refine qqO ?_|(refine qqP ?_ ?_;focus decide))|((with_reducible first|apply qqQ|apply qqR|apply qqS);focus (simp only [go_sem, encQ_len];exact rfl))|(with_reducible first|refine gk_tt ?_|refine gk_ff ?_|refine ck_t ?_|refine ck_f ?_)|((with_reducible first|refine gk_tf ?_|refine gk_ft ?_|refine gk_u ?_|refine gk_u' ?_);first|(intro _ e;(first|rw [qqY] at e|rw [qqZ] at e);subst e)|(intro _ _ e e';(first|rw [qqY] at e|rw [qqZ] at e);subst e;subst e'))))
  have rows : ∀ (rest pre : List Eqn), pre ++ rest = ts → idxF p ts 0 = idxF p rest pre.length → loopN (awp Try.prog ac59_l0) (catch_ 0 (thn K (retP [RV.tmp 4] [ii (idxF p ts 0)]))) (rest.length + 1)
     [(8, .pv (ii pre.length)), (7, .pv (ii ts.length)), (1, .pv (.fn fid caps)), (0, .pv (.list 6 (encQ ts)))] [] := by
    intro rest
    induction rest with
    | nil =>
      intro pre hpre hi
      have hpre : pre = ts := by simpa using hpre
      subst hpre
      refine loopN_k fun K1 hK1 => ?_
      unfold ac59_l0
      (repeat' (first|((with_reducible first|refine qqT fun C hC=>?_|refine qqU fun C hC=>?_|intro C hC);simp only [go_sem, lt_end];((with_reducible first|refine finA hC ?_|refine finD hC ?_);clear hC C))|(with_reducible first|refine qqA fun K hK=>?_|refine qqB fun K hK=>?_|refine qqC fun K hK=>?_|(refine qqD ?_;refine hK _ _ ?_;try clear hK K)|(refine qqE ?_;refine hK _ _ _ ?_ ?_;(focus kernel_rfl);try clear hK K)|(refine qqF ?_;refine hK _ _ ?_;try clear hK K)|refine qqG ?_|refine qqH ?_|refine qqI ?_|refine qqJ ?_|refine qqK ?_|(refine qqL ?_;try clear hK K)|(refine qqM ?_;try clear hK K)|refine qqN ?_|refine qqO ?_|(refine qqP ?_ ?_;focus decide))|((with_reducible first|apply qqQ|apply qqR|apply qqS);focus (simp only [go_sem, lt_end];exact rfl))|(with_reducible first|refine gk_tt ?_|refine gk_ff ?_|refine ck_t ?_|refine ck_f ?_)|((with_reducible first|refine gk_tf ?_|refine gk_ft ?_|refine gk_u ?_|refine gk_u' ?_);first|(intro _ e;(first|rw [qqY] at e|rw [qqZ] at e);subst e)|(intro _ _ e e';(first|rw [qqY] at e|rw [qqZ] at e);subst e;subst e'))))
      rw [hi]
      (refine retP_ret (List.range 40) rfl ?_; (try simp only [idxF, if_true, if_false, Bool.false_eq_true, Bool.not_true, Bool.not_false]); exact vwA)
    | cons t rest ih =>
      intro pre hpre hi
      have hlt : decide ((pre.length : Int) < (ts.length : Int)) = true := by subst hpre; exact lt_app _ _ _
      have hat : (encQ ts)[pre.length]? = some t.enc := by subst hpre; exact encQ_at _ _ _
      have hb : pre.length + 1 ≤ big := by have := congrArg List.length hpre; simp at this; unfold big; omega
      have hc := hp t (by subst hpre; simp)
      refine loopN_k fun K1 hK1 => ?_
      unfold ac59_l0
      cases hpt : p t with
      | true =>
        rw [hpt] at hc
        (repeat' (first|((first|(with_reducible refine qqV fun C hC=>?_)|(with_reducible refine qqW fun C hC=>?_)|((with_reducible intro C hC);(with_reducible refine qqX ?_)));(first|(simp only [go_sem, hlt, hat, cells_eqn, pcells_eqn];(first|((with_reducible refine ACall.pure [] (.pv _) ?_ (hc) ?_);(focus (exact vwA))))));(simp only [go_sem, hlt, hat, cells_eqn, pcells_eqn]);((with_reducible first|refine finA hC ?_|refine finD hC ?_);clear hC C))|((with_reducible first|refine qqT fun C hC=>?_|refine qqU fun C hC=>?_|intro C hC);simp only [go_sem, hlt, hat, cells_eqn, pcells_eqn];((with_reducible first|refine finA hC ?_|refine finD hC ?_);clear hC C))|(with_reducible first|refine qqA fun K hK=>?_|refine qqB fun K hK=>?_|refine qqC fun K hK=>?_|(refine qqD ?_;refine hK _ _ ?_;try clear hK K)|(refine qqE ?_;refine hK _ _ _ ?_ ?_;(focus kernel_rfl);try clear hK K)|(refine qqF ?_;refine hK _ _ ?_;try clear hK K)|refine qqG ?_|refine qqH ?_|refine qqI ?_|refine qqJ ?_|refine qqK ?_|(refine qqL ?_;try clear hK K)|(refine qqM ?_;try clear hK K)|refine qqN ?_|refine qqO ?_|(refine qqP ?_ ?_;focus decide))|((with_reducible first|apply qqQ|apply qqR|apply qqS);focus (simp only [go_sem, hlt, hat, cells_eqn, pcells_eqn];exact rfl))|(with_reducible first|refine gk_tt ?_|refine gk_ff ?_|refine ck_t ?_|refine ck_f ?_)|((with_reducible first|refine gk_tf ?_|refine gk_ft ?_|refine gk_u ?_|refine gk_u' ?_);first|(intro _ e;(first|rw [qqY] at e|rw [qqZ] at e);subst e)|(intro _ _ e e';(first|rw [qqY] at e|rw [qqZ] at e);subst e;subst e'))))
        simp only [idxF, hpt, if_true] at hi
        rw [hi]
        (refine retP_ret (List.range 40) rfl ?_; exact vwA)
      | false =>
        rw [hpt] at hc
        (repeat' (first|((first|(with_reducible refine qqV fun C hC=>?_)|(with_reducible refine qqW fun C hC=>?_)|((with_reducible intro C hC);(with_reducible refine qqX ?_)));(first|(simp only [go_sem, hlt, hat, cells_eqn, pcells_eqn];(first|((with_reducible refine ACall.pure [] (.pv _) ?_ (hc) ?_);(focus (exact vwA))))));(simp only [go_sem, hlt, hat, cells_eqn, pcells_eqn]);((with_reducible first|refine finA hC ?_|refine finD hC ?_);clear hC C))|((with_reducible first|refine qqT fun C hC=>?_|refine qqU fun C hC=>?_|intro C hC);simp only [go_sem, hlt, hat, cells_eqn, pcells_eqn];((with_reducible first|refine finA hC ?_|refine finD hC ?_);clear hC C))|(with_reducible first|refine qqA fun K hK=>?_|refine qqB fun K hK=>?_|refine qqC fun K hK=>?_|(refine qqD ?_;refine hK _ _ ?_;try clear hK K)|(refine qqE ?_;refine hK _ _ _ ?_ ?_;(focus kernel_rfl);try clear hK K)|(refine qqF ?_;refine hK _ _ ?_;try clear hK K)|refine qqG ?_|refine qqH ?_|refine qqI ?_|refine qqJ ?_|refine qqK ?_|(refine qqL ?_;try clear hK K)|(refine qqM ?_;try clear hK K)|refine qqN ?_|refine qqO ?_|(refine qqP ?_ ?_;focus decide))|((with_reducible first|apply qqQ|apply qqR|apply qqS);focus (simp only [go_sem, hlt, hat, cells_eqn, pcells_eqn];exact rfl))|(with_reducible first|refine gk_tt ?_|refine gk_ff ?_|refine ck_t ?_|refine ck_f ?_)|((with_reducible first|refine gk_tf ?_|refine gk_ft ?_|refine gk_u ?_|refine gk_u' ?_);first|(intro _ e;(first|rw [qqY] at e|rw [qqZ] at e);subst e)|(intro _ _ e e';(first|rw [qqY] at e|rw [qqZ] at e);subst e;subst e'))))
        have hw := wrapS (n := pre.length) (by unfold big at hb; omega)
        refine qqF ?_
        refine hK1 _ _ _ _ _ (LeB [] (by refine ⟨?_, ?_, ?_⟩ <;> simp only [leFr, leFb, leHp, V.ren, V.renL, V.bd, V.bdL, allL, lt, Go.Ab.get, hget, List.map_cons, List.map_nil, List.length_cons, List.length_nil, List.length_append, List.getElem?_cons_zero, List.getElem?_cons_succ, List.getElem?_nil, Option.join_some, Option.join_none, List.getD_cons_zero, List.getD_cons_succ, List.getD_nil, Nat.reduceAdd, Nat.reduceLT, Nat.reduceEqDiff, Nat.zero_add, reduceIte, if_true, if_false, and_true, true_and, renL_vcells, allL_vcells, renL_pv, leBlk_some, eq_self, true_or, or_true, reduceCtorEq, false_or, hw, List.length_append])) (ih (pre ++ [t]) (by simp [hpre]) (by simpa [idxF, hpt] using hi))
  refine awp_loop_k _ (LeB [] (by refine ⟨?_, ?_, ?_⟩ <;> simp only [leFr, leFb, leHp, V.ren, V.renL, V.bd, V.bdL, allL, lt, Go.Ab.get, hget, List.map_cons, List.map_nil, List.length_cons, List.length_nil, List.length_append, List.getElem?_cons_zero, List.getElem?_cons_succ, List.getElem?_nil, Option.join_some, Option.join_none, List.getD_cons_zero, List.getD_cons_succ, List.getD_nil, Nat.reduceAdd, Nat.reduceLT, Nat.reduceEqDiff, Nat.zero_add, reduceIte, if_true, if_false, and_true, true_and, renL_vcells, allL_vcells, renL_pv, leBlk_some, eq_self, true_or, or_true, reduceCtorEq, false_or, c0])) (rows ts [] rfl rfl)
theorem hasQ_ok (fid : FuncId) (caps : List PV) (p : Eqn → Bool) (ts : List Eqn) (hp : ∀ t ∈ ts, PCall Try.prog fid ([Eqn.enc t] ++ caps) (bb (p t))) : PCall Try.prog 30 [.list 6 (encQ ts), .fn fid caps] (bb (ts.any p)) := by
  have h := idxQ_ok fid caps p ts hp
  refine PCall.intro (ps := [bb (ts.any p)]) fn30 (by simp) ?_
  unfold ac30
  simp only [argFr]
  (repeat' (first|((first|(with_reducible refine qqV fun C hC=>?_)|(with_reducible refine qqW fun C hC=>?_)|((with_reducible intro C hC);(with_reducible refine qqX ?_)));(first|(simp only [go_sem, idxF_ge];(first|((with_reducible apply ACall.pure0 [] (h));(focus (exact vwA))))));(simp only [go_sem, idxF_ge]);((with_reducible first|refine finA hC ?_|refine finD hC ?_);clear hC C))|((with_reducible first|refine qqT fun C hC=>?_|refine qqU fun C hC=>?_|intro C hC);simp only [go_sem, idxF_ge];((with_reducible first|refine finA hC ?_|refine finD hC ?_);clear hC C))|(with_reducible first|refine qqA fun K hK=>?_|refine qqB fun K hK=>?_|refine qqC fun K hK=>?_|(refine qqD ?_;refine hK _ _ ?_;try clear hK K)|(refine qqE ?_;refine hK _ _ _ ?_ ?_;(focus kernel_rfl);try clear hK K)|(refine qqF ?_;refine hK _ _ ?_;try clear hK K)|refine qqG ?_|refine qqH ?_|refine qqI ?_|refine qqJ ?_|refine qqK ?_|(refine qqL ?_;try clear hK K)|(refine qqM ?_;try clear hK K)|refine qqN ?_|refine qqO ?_|(refine qqP ?_ ?_;focus decide))|((with_reducible first|apply qqQ|apply qqR|apply qqS);focus (simp only [go_sem, idxF_ge];exact rfl))|(with_reducible first|refine gk_tt ?_|refine gk_ff ?_|refine ck_t ?_|refine ck_f ?_)|((with_reducible first|refine gk_tf ?_|refine gk_ft ?_|refine gk_u ?_|refine gk_u' ?_);first|(intro _ e;(first|rw [qqY] at e|rw [qqZ] at e);subst e)|(intro _ _ e e';(first|rw [qqY] at e|rw [qqZ] at e);subst e;subst e'))))
  (refine retP_ret (List.range 40) rfl ?_; exact vwA)
def badQ (e : Eqn) : Bool := if valT e.l != 0 then true else valT e.r != 0
set_option maxHeartbeats 1000000 in
theorem badQ_ok (e : Eqn) : PCall Try.prog 31 [e.enc] (bb (badQ e)) := by
  have h1 := valid_ok e.l
  have h2 := valid_ok e.r
  refine PCall.intro (ps := [bb (badQ e)]) fn31 (by simp) ?_
  unfold ac31
  simp only [argFr]
  cases hv : (valT e.l != 0) with
  | true =>
    (repeat' (first|((first|(with_reducible refine qqV fun C hC=>?_)|(with_reducible refine qqW fun C hC=>?_)|((with_reducible intro C hC);(with_reducible refine qqX ?_)));(first|(simp only [go_sem, cells_eqn, pcells_eqn, hv];(first|((with_reducible apply ACall.pure0 [] (h1));(focus (exact vwA)))|((with_reducible apply ACall.pure0 [] (h2));(focus (exact vwA))))));(simp only [go_sem, cells_eqn, pcells_eqn, hv]);((with_reducible first|refine finA hC ?_|refine finD hC ?_);clear hC C))|((with_reducible first|refine qqT fun C hC=>?_|refine qqU fun C hC=>?_|intro C hC);simp only [go_sem, cells_eqn, pcells_eqn, hv];((with_reducible first|refine finA hC ?_|refine finD hC ?_);clear hC C))|(with_reducible first|refine qqA fun K hK=>?_|refine qqB fun K hK=>?_|refine qqC fun K hK=>?_|(refine qqD ?_;refine hK _ _ ?_;try clear hK K)|(refine qqE ?_;refine hK _ _ _ ?_ ?_;(focus kernel_rfl);try clear hK K)|(refine qqF ?_;refine hK _ _ ?_;try clear hK K)|refine qqG ?_|refine qqH ?_|refine qqI ?_|refine qqJ ?_|refine qqK ?_|(refine qqL ?_;try clear hK K)|(refine qqM ?_;try clear hK K)|refine qqN ?_|refine qqO ?_|(refine qqP ?_ ?_;focus decide))|((with_reducible first|apply qqQ|apply qqR|apply qqS);focus (simp only [go_sem, cells_eqn, pcells_eqn, hv];exact rfl))|(with_reducible first|refine gk_tt ?_|refine gk_ff ?_|refine ck_t ?_|refine ck_f ?_)|((with_reducible first|refine gk_tf ?_|refine gk_ft ?_|refine gk_u ?_|refine gk_u' ?_);first|(intro _ e;(first|rw [qqY] at e|rw [qqZ] at e);subst e)|(intro _ _ e e';(first|rw [qqY] at e|rw [qqZ] at e);subst e;subst e'))))
    (refine retP_ret (List.range 40) rfl ?_; (try simp only [badQ, hv, if_true, if_false, Bool.false_eq_true, Bool.not_true, Bool.not_false]); exact vwA)
  | false =>
    (repeat' (first|((first|(with_reducible refine qqV fun C hC=>?_)|(with_reducible refine qqW fun C hC=>?_)|((with_reducible intro C hC);(with_reducible refine qqX ?_)));(first|(simp only [go_sem, cells_eqn, pcells_eqn, hv];(first|((with_reducible apply ACall.pure0 [] (h1));(focus (exact vwA)))|((with_reducible apply ACall.pure0 [] (h2));(focus (exact vwA))))));(simp only [go_sem, cells_eqn, pcells_eqn, hv]);((with_reducible first|refine finA hC ?_|refine finD hC ?_);clear hC C))|((with_reducible first|refine qqT fun C hC=>?_|refine qqU fun C hC=>?_|intro C hC);simp only [go_sem, cells_eqn, pcells_eqn, hv];((with_reducible first|refine finA hC ?_|refine finD hC ?_);clear hC C))|(with_reducible first|refine qqA fun K hK=>?_|refine qqB fun K hK=>?_|refine qqC fun K hK=>?_|(refine qqD ?_;refine hK _ _ ?_;try clear hK K)|(refine qqE ?_;refine hK _ _ _ ?_ ?_;(focus kernel_rfl);try clear hK K)|(refine qqF ?_;refine hK _ _ ?_;try clear hK K)|refine qqG ?_|refine qqH ?_|refine qqI ?_|refine qqJ ?_|refine qqK ?_|(refine qqL ?_;try clear hK K)|(refine qqM ?_;try clear hK K)|refine qqN ?_|refine qqO ?_|(refine qqP ?_ ?_;focus decide))|((with_reducible first|apply qqQ|apply qqR|apply qqS);focus (simp only [go_sem, cells_eqn, pcells_eqn, hv];exact rfl))|(with_reducible first|refine gk_tt ?_|refine gk_ff ?_|refine ck_t ?_|refine ck_f ?_)|((with_reducible first|refine gk_tf ?_|refine gk_ft ?_|refine gk_u ?_|refine gk_u' ?_);first|(intro _ e;(first|rw [qqY] at e|rw [qqZ] at e);subst e)|(intro _ _ e e';(first|rw [qqY] at e|rw [qqZ] at e);subst e;subst e'))))
    (refine retP_ret (List.range 40) rfl ?_; (try simp only [badQ, hv, if_true, if_false, Bool.false_eq_true, Bool.not_true, Bool.not_false]); exact vwA)
def runR : SB → List Eqn → Bool → SB → Prop
  | L, [], r, L' => r = true ∧ L' = L
  | L, e :: es, r, L' => ∃ n r1 L1 p1, UniR n L 20000 e.l e.r r1 L1 p1 ∧ (if r1 = true then runR L1 es r L' else r = false ∧ L' = L1)
def ON : OS := fun _ => none
theorem ole_N (O : OS) : OLe O ON := fun k x e => by cases e
/-- the answer -/
def ansV (bs : List Bd) (b : Bool) : PV := .tup [.list 4 (encB bs), bb b]
set_option maxHeartbeats 4000000 in
theorem q_rows {s m : Nat} (hsm : s ≠ m) (O : OS) {es : List Eqn} (hes : es.length ≤ 100) {r : Bool} {L' : SB} {bs : List Bd} {ok : Bool} (hans : r = false → bs = [] ∧ ok = false) {K : Fr → Hp → OS → Prop}
    (hN : ∀ fr p, r = true → Ab.get fr 4 = .pv (pS s) → K fr [] (St O s m p L')) : ∀ (rest pre : List Eqn) (L : SB) (p : Int), pre ++ rest = es → runR L rest r L' →
    loopNO (awpO Try.prog ac9_l0) (catchO 0 (thnO K (retPO [RV.tmp 2, RV.tmp 3] (OIs (ansV bs ok) ON)))) (rest.length + 1)
      [(20, .pv (ii pre.length)), (19, .pv (ii es.length)), (18, .pv (.list 6 (encQ es))), (4, .pv (pS s))] [] (St O s m p L) := by
  intro rest
  induction rest with
  | nil =>
    intro pre L p hpre h
    have hpre : pre = es := by simpa using hpre
    obtain ⟨rfl, rfl⟩ := h
    rw [hpre]
    refine loopNO_k fun K1 hK1 => ?_
    unfold ac9_l0
    (repeat' (first|((with_reducible refine aopsO_cons' fun C hC=>?_);simp only [go_sem, lt_end];((with_reducible refine finO hC ?_);clear hC C))|((with_reducible refine aopsO_ob' fun C hC=>?_);simp only [go_sem, lt_end];((with_reducible refine finOb hC ?_);clear hC C))|((with_reducible refine aopsDO_cons' fun C hC=>?_);simp only [go_sem, lt_end];((with_reducible refine finDO hC ?_);clear hC C))|((with_reducible refine aopsDO_ob' ?_ fun C hC=>?_);(focus rfl);simp only [go_sem, lt_end];((with_reducible refine finDOb hC ?_);clear hC C))|(with_reducible first|refine awpO_seq_k fun K hK=>?_|refine awpO_reg_k fun K hK=>?_|refine awpO_dreg_k fun K hK=>?_|(refine aopsO_nil ?_;refine hK _ _ _ ?_;try clear hK K)|(refine aopsDO_nil ?_;refine hK _ _ _ _ ?_ ?_;(focus kernel_rfl);try clear hK K)|(refine thnO_normal ?_;refine hK _ _ _ ?_;try clear hK K)|refine catchO_normal ?_|refine awpO_skip_k ?_|refine awpO_ret_k ?_|refine awpO_exit_k ?_|refine awpO_block_k ?_|(refine thnO_exit ?_;try clear hK K)|(refine thnO_ret ?_;try clear hK K)|refine catchO_ret ?_|refine catchO_exit ?_|(refine catchO_other ?_ ?_;focus decide))|((with_reducible first|apply aopsO_guard'|apply aopsDO_guard'|apply awpO_cond_g);focus (simp only [go_sem, lt_end];exact rfl))|(with_reducible first|refine gk_tt ?_|refine gk_ff ?_|refine ck_t ?_|refine ck_f ?_)|((with_reducible first|refine gk_tf ?_|refine gk_ft ?_|refine gk_u ?_|refine gk_u' ?_);first|(intro _ e;(first|rw [qqY] at e|rw [qqZ] at e);subst e)|(intro _ _ e e';(first|rw [qqY] at e|rw [qqZ] at e);subst e;subst e'))))
    exact hN _ _ rfl rfl
  | cons e rest ih =>
    intro pre L p hpre h
    obtain ⟨n, r1, L1, p1, hU, h⟩ := h
    have hc := sunify_ok hsm O (p := p) hU
    have hlt : decide ((pre.length : Int) < (es.length : Int)) = true := by rw [← hpre]; exact lt_app _ _ _
    have hat : (encQ es)[pre.length]? = some e.enc := by rw [← hpre]; exact encQ_at _ _ _
    have hb : pre.length + 1 ≤ big := by have := congrArg List.length hpre; simp at this; unfold big; omega
    refine loopNO_k fun K1 hK1 => ?_
    unfold ac9_l0
    cases r1 with
    | false =>
      rw [if_neg (by decide)] at h
      obtain ⟨rfl, rfl⟩ := h
      obtain ⟨rfl, rfl⟩ := hans rfl
      (repeat' (first|((with_reducible refine aopsO_call0 (hc) ?_ ?_ ?_);(focus (simp only [go_sem, hlt, hat, cells_eqn, pcells_eqn, enc_eqn, enc_eq];done));(focus (simp only [go_sem, hlt, hat, cells_eqn, pcells_eqn, enc_eqn, enc_eq];done));rintro _ _ _ ⟨rfl, e2⟩ e;(replace e2 := Eq.symm e2;subst e2);(first|rw [qqY] at e|rw [qqZ] at e);subst e)|((with_reducible refine aopsDO_call0 (hc) ?_ ?_ ?_);(focus (simp only [go_sem, hlt, hat, cells_eqn, pcells_eqn, enc_eqn, enc_eq];done));(focus (simp only [go_sem, hlt, hat, cells_eqn, pcells_eqn, enc_eqn, enc_eq];done));intro _ _ e e';(first|rw [qqY] at e|rw [qqZ] at e);subst e;subst e')|((with_reducible refine aopsO_callX (hc) ?_ ?_ ?_);(focus (simp only [go_sem, hlt, hat, cells_eqn, pcells_eqn, enc_eqn, enc_eq];done));(focus (simp only [go_sem, hlt, hat, cells_eqn, pcells_eqn, enc_eqn, enc_eq];done));rintro _ _ _ ⟨rfl, e2⟩ e;(replace e2 := Eq.symm e2;subst e2);(first|rw [qqY] at e|rw [qqZ] at e);subst e)|((with_reducible refine aopsO_cons' fun C hC=>?_);simp only [go_sem, hlt, hat, cells_eqn, pcells_eqn, enc_eqn, enc_eq];((with_reducible refine finO hC ?_);clear hC C))|((with_reducible refine aopsO_ob' fun C hC=>?_);simp only [go_sem, hlt, hat, cells_eqn, pcells_eqn, enc_eqn, enc_eq];((with_reducible refine finOb hC ?_);clear hC C))|((with_reducible refine aopsDO_cons' fun C hC=>?_);simp only [go_sem, hlt, hat, cells_eqn, pcells_eqn, enc_eqn, enc_eq];((with_reducible refine finDO hC ?_);clear hC C))|((with_reducible refine aopsDO_ob' ?_ fun C hC=>?_);(focus rfl);simp only [go_sem, hlt, hat, cells_eqn, pcells_eqn, enc_eqn, enc_eq];((with_reducible refine finDOb hC ?_);clear hC C))|(with_reducible first|refine awpO_seq_k fun K hK=>?_|refine awpO_reg_k fun K hK=>?_|refine awpO_dreg_k fun K hK=>?_|(refine aopsO_nil ?_;refine hK _ _ _ ?_;try clear hK K)|(refine aopsDO_nil ?_;refine hK _ _ _ _ ?_ ?_;(focus kernel_rfl);try clear hK K)|(refine thnO_normal ?_;refine hK _ _ _ ?_;try clear hK K)|refine catchO_normal ?_|refine awpO_skip_k ?_|refine awpO_ret_k ?_|refine awpO_exit_k ?_|refine awpO_block_k ?_|(refine thnO_exit ?_;try clear hK K)|(refine thnO_ret ?_;try clear hK K)|refine catchO_ret ?_|refine catchO_exit ?_|(refine catchO_other ?_ ?_;focus decide))|((with_reducible first|apply aopsO_guard'|apply aopsDO_guard'|apply awpO_cond_g);focus (simp only [go_sem, hlt, hat, cells_eqn, pcells_eqn, enc_eqn, enc_eq];exact rfl))|(with_reducible first|refine gk_tt ?_|refine gk_ff ?_|refine ck_t ?_|refine ck_f ?_)|((with_reducible first|refine gk_tf ?_|refine gk_ft ?_|refine gk_u ?_|refine gk_u' ?_);first|(intro _ e;(first|rw [qqY] at e|rw [qqZ] at e);subst e)|(intro _ _ e e';(first|rw [qqY] at e|rw [qqZ] at e);subst e;subst e'))))
      refine retPO_ret (ps := [.list 4 (encB []), bb false]) (List.range 40) rfl ?_ (ole_N _) ⟨rfl, rfl⟩
      exact vwA
    | true =>
      rw [if_pos rfl] at h
      (repeat' (first|((with_reducible refine aopsO_call0 (hc) ?_ ?_ ?_);(focus (simp only [go_sem, hlt, hat, cells_eqn, pcells_eqn, enc_eqn, enc_eq];done));(focus (simp only [go_sem, hlt, hat, cells_eqn, pcells_eqn, enc_eqn, enc_eq];done));rintro _ _ _ ⟨rfl, e2⟩ e;(replace e2 := Eq.symm e2;subst e2);(first|rw [qqY] at e|rw [qqZ] at e);subst e)|((with_reducible refine aopsDO_call0 (hc) ?_ ?_ ?_);(focus (simp only [go_sem, hlt, hat, cells_eqn, pcells_eqn, enc_eqn, enc_eq];done));(focus (simp only [go_sem, hlt, hat, cells_eqn, pcells_eqn, enc_eqn, enc_eq];done));intro _ _ e e';(first|rw [qqY] at e|rw [qqZ] at e);subst e;subst e')|((with_reducible refine aopsO_callX (hc) ?_ ?_ ?_);(focus (simp only [go_sem, hlt, hat, cells_eqn, pcells_eqn, enc_eqn, enc_eq];done));(focus (simp only [go_sem, hlt, hat, cells_eqn, pcells_eqn, enc_eqn, enc_eq];done));rintro _ _ _ ⟨rfl, e2⟩ e;(replace e2 := Eq.symm e2;subst e2);(first|rw [qqY] at e|rw [qqZ] at e);subst e)|((with_reducible refine aopsO_cons' fun C hC=>?_);simp only [go_sem, hlt, hat, cells_eqn, pcells_eqn, enc_eqn, enc_eq];((with_reducible refine finO hC ?_);clear hC C))|((with_reducible refine aopsO_ob' fun C hC=>?_);simp only [go_sem, hlt, hat, cells_eqn, pcells_eqn, enc_eqn, enc_eq];((with_reducible refine finOb hC ?_);clear hC C))|((with_reducible refine aopsDO_cons' fun C hC=>?_);simp only [go_sem, hlt, hat, cells_eqn, pcells_eqn, enc_eqn, enc_eq];((with_reducible refine finDO hC ?_);clear hC C))|((with_reducible refine aopsDO_ob' ?_ fun C hC=>?_);(focus rfl);simp only [go_sem, hlt, hat, cells_eqn, pcells_eqn, enc_eqn, enc_eq];((with_reducible refine finDOb hC ?_);clear hC C))|(with_reducible first|refine awpO_seq_k fun K hK=>?_|refine awpO_reg_k fun K hK=>?_|refine awpO_dreg_k fun K hK=>?_|(refine aopsO_nil ?_;refine hK _ _ _ ?_;try clear hK K)|(refine aopsDO_nil ?_;refine hK _ _ _ _ ?_ ?_;(focus kernel_rfl);try clear hK K)|(refine thnO_normal ?_;refine hK _ _ _ ?_;try clear hK K)|refine catchO_normal ?_|refine awpO_skip_k ?_|refine awpO_ret_k ?_|refine awpO_exit_k ?_|refine awpO_block_k ?_|(refine thnO_exit ?_;try clear hK K)|(refine thnO_ret ?_;try clear hK K)|refine catchO_ret ?_|refine catchO_exit ?_|(refine catchO_other ?_ ?_;focus decide))|((with_reducible first|apply aopsO_guard'|apply aopsDO_guard'|apply awpO_cond_g);focus (simp only [go_sem, hlt, hat, cells_eqn, pcells_eqn, enc_eqn, enc_eq];exact rfl))|(with_reducible first|refine gk_tt ?_|refine gk_ff ?_|refine ck_t ?_|refine ck_f ?_)|((with_reducible first|refine gk_tf ?_|refine gk_ft ?_|refine gk_u ?_|refine gk_u' ?_);first|(intro _ e;(first|rw [qqY] at e|rw [qqZ] at e);subst e)|(intro _ _ e e';(first|rw [qqY] at e|rw [qqZ] at e);subst e;subst e'))))
      have hw := wrapS (n := pre.length) (by unfold big at hb; omega)
      refine thnO_normal ?_
      refine hK1 _ _ _ _ _ _ _ (LeB [] (by refine ⟨?_, ?_, ?_⟩ <;> simp only [leFr, leFb, leHp, V.ren, V.renL, V.bd, V.bdL, allL, lt, Go.Ab.get, hget, List.map_cons, List.map_nil, List.length_cons, List.length_nil, List.length_append, List.getElem?_cons_zero, List.getElem?_cons_succ, List.getElem?_nil, Option.join_some, Option.join_none, List.getD_cons_zero, List.getD_cons_succ, List.getD_nil, Nat.reduceAdd, Nat.reduceLT, Nat.reduceEqDiff, Nat.zero_add, reduceIte, if_true, if_false, and_true, true_and, renL_vcells, allL_vcells, renL_pv, leBlk_some, eq_self, true_or, or_true, reduceCtorEq, false_or, hw, List.length_append])) (OLe.refl _) (ih (pre ++ [e]) L1 p1 (by simp [hpre]) h)
/-- an answer that names no object -/
theorem PCall.ofO {f : FuncId} {args : List PV} {r : PV} (h : OCall Try.prog f args ON (OIs r ON)) : PCall Try.prog f args r :=
  ⟨h.1, fun I w us hI hus => (h.2 I w us hI (fun k x e => by cases e) hus).mono fun e w' ⟨u, J, r', O', he, ⟨hr, hO⟩, hle, hnew, hJ, hrp, hobj, hold, h1, h2, h3, h4, h5⟩ => by
    subst hr
    exact ⟨u, J, he, hle, hnew, hJ, hrp, ⟨h1, h2, h3, h4, fun k hk => h5 k hk rfl⟩⟩⟩
set_option maxHeartbeats 4000000 in
/-- a system that is refused -/
theorem unify_bad {es : List Eqn} (h : (if decide ((es.length : Int) > 100) then true else es.any badQ) = true) : PCall Try.prog 9 [.list 6 (encQ es)] (ansV [] false) := by
  refine PCall.ofO (OCall.intro' fn9 (by simp) fun hok => ?_)
  clear hok
  unfold ac9
  simp only [argFr]
  cases hl : decide ((es.length : Int) > 100) with
  | true =>
    (repeat' (first|((with_reducible refine aopsO_cons' fun C hC=>?_);simp only [go_sem, encQ_len, hl];((with_reducible refine finO hC ?_);clear hC C))|((with_reducible refine aopsO_ob' fun C hC=>?_);simp only [go_sem, encQ_len, hl];((with_reducible refine finOb hC ?_);clear hC C))|((with_reducible refine aopsDO_cons' fun C hC=>?_);simp only [go_sem, encQ_len, hl];((with_reducible refine finDO hC ?_);clear hC C))|((with_reducible refine aopsDO_ob' ?_ fun C hC=>?_);(focus rfl);simp only [go_sem, encQ_len, hl];((with_reducible refine finDOb hC ?_);clear hC C))|(with_reducible first|refine awpO_seq_k fun K hK=>?_|refine awpO_reg_k fun K hK=>?_|refine awpO_dreg_k fun K hK=>?_|(refine aopsO_nil ?_;refine hK _ _ _ ?_;try clear hK K)|(refine aopsDO_nil ?_;refine hK _ _ _ _ ?_ ?_;(focus kernel_rfl);try clear hK K)|(refine thnO_normal ?_;refine hK _ _ _ ?_;try clear hK K)|refine catchO_normal ?_|refine awpO_skip_k ?_|refine awpO_ret_k ?_|refine awpO_exit_k ?_|refine awpO_block_k ?_|(refine thnO_exit ?_;try clear hK K)|(refine thnO_ret ?_;try clear hK K)|refine catchO_ret ?_|refine catchO_exit ?_|(refine catchO_other ?_ ?_;focus decide))|((with_reducible first|apply aopsO_guard'|apply aopsDO_guard'|apply awpO_cond_g);focus (simp only [go_sem, encQ_len, hl];exact rfl))|(with_reducible first|refine gk_tt ?_|refine gk_ff ?_|refine ck_t ?_|refine ck_f ?_)|((with_reducible first|refine gk_tf ?_|refine gk_ft ?_|refine gk_u ?_|refine gk_u' ?_);first|(intro _ e;(first|rw [qqY] at e|rw [qqZ] at e);subst e)|(intro _ _ e e';(first|rw [qqY] at e|rw [qqZ] at e);subst e;subst e'))))
    refine retPO_ret (ps := [.list 4 (encB []), bb false]) (List.range 40) rfl ?_ (ole_N _) ⟨rfl, rfl⟩
    exact vwA
  | false =>
    rw [hl, if_neg (by decide)] at h
    have hc := hasQ_ok 31 [] badQ es fun e _ => by rw [List.append_nil]; exact badQ_ok e
    rw [h] at hc
    (repeat' (first|((first|(with_reducible refine aopsO_call fun C hC=>?_));(first|(simp only [go_sem, encQ_len, hl];(first|((with_reducible apply ACall.pure0 [] (hc));(focus (exact vwA))))));(simp only [go_sem, encQ_len, hl]);((with_reducible refine finO hC ?_);clear hC C))|((first|(with_reducible refine aopsDO_call fun C hC=>?_));(first|(simp only [go_sem, encQ_len, hl];(first|((with_reducible apply ACall.pure0 [] (hc));(focus (exact vwA))))));(simp only [go_sem, encQ_len, hl]);((with_reducible refine finDO hC ?_);clear hC C))|((with_reducible refine aopsO_cons' fun C hC=>?_);simp only [go_sem, encQ_len, hl];((with_reducible refine finO hC ?_);clear hC C))|((with_reducible refine aopsO_ob' fun C hC=>?_);simp only [go_sem, encQ_len, hl];((with_reducible refine finOb hC ?_);clear hC C))|((with_reducible refine aopsDO_cons' fun C hC=>?_);simp only [go_sem, encQ_len, hl];((with_reducible refine finDO hC ?_);clear hC C))|((with_reducible refine aopsDO_ob' ?_ fun C hC=>?_);(focus rfl);simp only [go_sem, encQ_len, hl];((with_reducible refine finDOb hC ?_);clear hC C))|(with_reducible first|refine awpO_seq_k fun K hK=>?_|refine awpO_reg_k fun K hK=>?_|refine awpO_dreg_k fun K hK=>?_|(refine aopsO_nil ?_;refine hK _ _ _ ?_;try clear hK K)|(refine aopsDO_nil ?_;refine hK _ _ _ _ ?_ ?_;(focus kernel_rfl);try clear hK K)|(refine thnO_normal ?_;refine hK _ _ _ ?_;try clear hK K)|refine catchO_normal ?_|refine awpO_skip_k ?_|refine awpO_ret_k ?_|refine awpO_exit_k ?_|refine awpO_block_k ?_|(refine thnO_exit ?_;try clear hK K)|(refine thnO_ret ?_;try clear hK K)|refine catchO_ret ?_|refine catchO_exit ?_|(refine catchO_other ?_ ?_;focus decide))|((with_reducible first|apply aopsO_guard'|apply aopsDO_guard'|apply awpO_cond_g);focus (simp only [go_sem, encQ_len, hl];exact rfl))|(with_reducible first|refine gk_tt ?_|refine gk_ff ?_|refine ck_t ?_|refine ck_f ?_)|((with_reducible first|refine gk_tf ?_|refine gk_ft ?_|refine gk_u ?_|refine gk_u' ?_);first|(intro _ e;(first|rw [qqY] at e|rw [qqZ] at e);subst e)|(intro _ _ e e';(first|rw [qqY] at e|rw [qqZ] at e);subst e;subst e'))))
    refine retPO_ret (ps := [.list 4 (encB []), bb false]) (List.range 40) rfl ?_ (ole_N _) ⟨rfl, rfl⟩
    exact vwA
end Go.Proofs.Ytiediojibljpiaa
