/- A1: joined from S0 S1 S2a S2 S4. -/
import Derived.Test.YtiediojibljpiaaVFnU
import Derived.Test.YtiediojibljpiaaVK3
/- The tree of a type, and how it stands as a value. -/
set_option linter.unusedSimpArgs false
namespace Go.Proofs.Ytiediojibljpiaa
open Go Go.Ab
inductive Ty where
  | mk (k id : Int) (args : List Ty)
abbrev ii (n : Int) : PV := .lit (.int .i64 n)
abbrev bb (n : Bool) : PV := .lit (.bool n)
mutual
def Ty.enc : Ty → PV
  | .mk k id ss => .agg [ii k, ii id, .list 3 (encL ss)]
def encL : List Ty → List PV
  | [] => []
  | t :: ts => t.enc :: encL ts
end
theorem encL_map (ts : List Ty) : encL ts = ts.map Ty.enc := by induction ts with
  | nil => rfl
  | cons t ts ih => simp [encL, ih]
theorem encL_len (ts : List Ty) : (encL ts).length = ts.length := by simp [encL_map]
theorem encL_at (ts us : List Ty) (t : Ty) : (encL (ts ++ t :: us))[ts.length]? = some t.enc := by simp [encL_map]
def Ty.kd : Ty → Int | .mk k _ _ => k
def Ty.id : Ty → Int | .mk _ i _ => i
def Ty.args : Ty → List Ty | .mk _ _ a => a
def Ty.tc (t : Ty) : List V := [.pv (ii t.kd), .pv (ii t.id), .pv (.list 3 (encL t.args))]
theorem enc_eq (t : Ty) : t.enc = .agg [ii t.kd, ii t.id, .list 3 (encL t.args)] := by cases t; rfl
theorem cells_enc (t : Ty) : (V.pv t.enc).cells? = some t.tc := by cases t; rfl
theorem pcells_enc (t : Ty) : t.enc.cells = [ii t.kd, ii t.id, .list 3 (encL t.args)] := by cases t; rfl
theorem Vw_tc {h : HF} {B : List Nat} (t : Ty) : VwL h B t.tc [ii t.kd, ii t.id, .list 3 (encL t.args)] := .cons _ _ _ _ (.pv _) (.cons _ _ _ _ (.pv _) (.cons _ _ _ _ (.pv _) .nil))
theorem Vw_enc {h : HF} {B : List Nat} (t : Ty) : Vw h B (.agg [.pv (ii t.kd), .pv (ii t.id), .pv (.list 3 (encL t.args))]) t.enc := by rw [enc_eq]; exact .agg _ _ (Vw_tc t)
theorem Vw_penc {h : HF} {B : List Nat} (t : Ty) : Vw h B (.pv (.agg [ii t.kd, ii t.id, .list 3 (encL t.args)])) t.enc := by rw [enc_eq]; exact .pv _
theorem tc_len (t : Ty) : t.tc.length = 3 := rfl
theorem VwE_tc {h : HF} {B : List Nat} : ∀ (ts : List Ty), VwE h B 3 (ts.map Ty.tc) (encL ts)
  | [] => .nil _
  | t :: ts => .cons _ _ _ _ _ (by rw [pcells_enc]; rfl) (by rw [pcells_enc]; exact Vw_tc t) (VwE_tc ts)
theorem renL_tc1 {ρ : Nat → Nat} (t : Ty) : V.renL ρ t.tc = t.tc := rfl
theorem bdL_tc {S : Nat → Prop} (t : Ty) : V.bdL S t.tc = True := by simp [Ty.tc, V.bdL, V.bd]
theorem renL_tc {ρ : Nat → Nat} (ts : List Ty) : (ts.map Ty.tc).map (V.renL ρ) = ts.map Ty.tc := by
  rw [List.map_map]; exact List.map_congr_left fun p _ => rfl
theorem allL_tc {S : Nat → Prop} (ts : List Ty) : allL S (ts.map Ty.tc) = True := by
  simp only [allL_iff, eq_iff_iff, iff_true]
  intro cs hcs
  obtain ⟨p, _, rfl⟩ := List.mem_map.1 hcs
  simp [Ty.tc, V.bdL, V.bd]
end Go.Proofs.Ytiediojibljpiaa
/- types.Map -/
set_option maxRecDepth 10000
set_option linter.unusedSimpArgs false
set_option linter.unusedVariables false
namespace Go.Proofs.Ytiediojibljpiaa
open Go Go.Ab
mutual
def mapT (g : Ty → Ty × Bool) : Ty → Ty
  | .mk k id ss => if (g (.mk k id ss)).2 then (g (.mk k id ss)).1 else .mk k id (mapTL g ss)
def mapTL (g : Ty → Ty × Bool) : List Ty → List Ty
  | [] => []
  | t :: ts => mapT g t :: mapTL g ts
end
theorem mapTL_map (g : Ty → Ty × Bool) (ts : List Ty) : mapTL g ts = ts.map (mapT g) := by induction ts with
  | nil => rfl
  | cons t ts ih => simp [mapTL, ih]
theorem mapTL_app (g : Ty → Ty × Bool) (ts us : List Ty) : mapTL g (ts ++ us) = mapTL g ts ++ mapTL g us := by simp [mapTL_map]
theorem mapTL_len (g : Ty → Ty × Bool) (ts : List Ty) : (mapTL g ts).length = ts.length := by simp [mapTL_map]
end Go.Proofs.Ytiediojibljpiaa
/- Types: clone, constructors, looking for one. -/
set_option maxRecDepth 10000
set_option linter.unusedSimpArgs false
set_option linter.unusedVariables false
namespace Go.Proofs.Ytiediojibljpiaa
open Go Go.Ab
theorem c0 : ((0 : Nat) : Int) = 0 := rfl
theorem typ_ok (k id : Int) (ss : List Ty) : PCall Try.prog 26 [ii k, ii id, .list 3 (encL ss)] (Ty.mk k id ss).enc := by
  refine PCall.intro (ps := [(Ty.mk k id ss).enc]) fn26 (by simp) ?_
  unfold ac26
  simp only [argFr]
  (repeat' (first|((with_reducible first|refine qqT fun C hC=>?_|refine qqU fun C hC=>?_|intro C hC);simp only [go_sem, cells_enc, tc_len, enc_eq];((with_reducible first|refine finA hC ?_|refine finD hC ?_);clear hC C))|(with_reducible first|refine qqA fun K hK=>?_|refine qqB fun K hK=>?_|refine qqC fun K hK=>?_|(refine qqD ?_;refine hK _ _ ?_;try clear hK K)|(refine qqE ?_;refine hK _ _ _ ?_ ?_;(focus kernel_rfl);try clear hK K)|(refine qqF ?_;refine hK _ _ ?_;try clear hK K)|refine qqG ?_|refine qqH ?_|refine qqI ?_|refine qqJ ?_|refine qqK ?_|(refine qqL ?_;try clear hK K)|(refine qqM ?_;try clear hK K)|refine qqN ?_|refine qqO ?_|(refine qqP ?_ ?_;focus decide))|((with_reducible first|apply qqQ|apply qqR|apply qqS);focus (simp only [go_sem, cells_enc, tc_len, enc_eq];exact rfl))|(with_reducible first|refine gk_tt ?_|refine gk_ff ?_|refine ck_t ?_|refine ck_f ?_)|((with_reducible first|refine gk_tf ?_|refine gk_ft ?_|refine gk_u ?_|refine gk_u' ?_);first|(intro _ e;(first|rw [qqY] at e|rw [qqZ] at e);subst e)|(intro _ _ e e';(first|rw [qqY] at e|rw [qqZ] at e);subst e;subst e'))))
  (refine retP_ret (List.range 40) rfl ?_; (try simp only [Ty.enc, if_true, if_false, Bool.false_eq_true, Bool.not_true, Bool.not_false]); exact vwA)
theorem tvar_ok (id : Int) : PCall Try.prog 19 [ii id] (Ty.mk 1 id []).enc := by
  refine PCall.intro (ps := [(Ty.mk 1 id []).enc]) fn19 (by simp) ?_
  unfold ac19
  simp only [argFr]
  (repeat' (first|((first|(with_reducible refine qqV fun C hC=>?_)|(with_reducible refine qqW fun C hC=>?_)|((with_reducible intro C hC);(with_reducible refine qqX ?_)));(first|(simp only [go_sem, cells_enc, tc_len, Ty.tc];(first|((with_reducible apply ACall.pure0 [] (typ_ok 1 id []));(focus (exact vwA))))));(simp only [go_sem, cells_enc, tc_len, Ty.tc]);((with_reducible first|refine finA hC ?_|refine finD hC ?_);clear hC C))|((with_reducible first|refine qqT fun C hC=>?_|refine qqU fun C hC=>?_|intro C hC);simp only [go_sem, cells_enc, tc_len, Ty.tc];((with_reducible first|refine finA hC ?_|refine finD hC ?_);clear hC C))|(with_reducible first|refine qqA fun K hK=>?_|refine qqB fun K hK=>?_|refine qqC fun K hK=>?_|(refine qqD ?_;refine hK _ _ ?_;try clear hK K)|(refine qqE ?_;refine hK _ _ _ ?_ ?_;(focus kernel_rfl);try clear hK K)|(refine qqF ?_;refine hK _ _ ?_;try clear hK K)|refine qqG ?_|refine qqH ?_|refine qqI ?_|refine qqJ ?_|refine qqK ?_|(refine qqL ?_;try clear hK K)|(refine qqM ?_;try clear hK K)|refine qqN ?_|refine qqO ?_|(refine qqP ?_ ?_;focus decide))|((with_reducible first|apply qqQ|apply qqR|apply qqS);focus (simp only [go_sem, cells_enc, tc_len, Ty.tc];exact rfl))|(with_reducible first|refine gk_tt ?_|refine gk_ff ?_|refine ck_t ?_|refine ck_f ?_)|((with_reducible first|refine gk_tf ?_|refine gk_ft ?_|refine gk_u ?_|refine gk_u' ?_);first|(intro _ e;(first|rw [qqY] at e|rw [qqZ] at e);subst e)|(intro _ _ e e';(first|rw [qqY] at e|rw [qqZ] at e);subst e;subst e'))))
  (refine retP_ret (List.range 40) rfl ?_; exact vwA)
theorem tint_ok : PCall Try.prog 46 [] (Ty.mk 3 0 []).enc := by
  refine PCall.intro (ps := [(Ty.mk 3 0 []).enc]) fn46 (by simp) ?_
  unfold ac46
  simp only [argFr]
  (repeat' (first|((first|(with_reducible refine qqV fun C hC=>?_)|(with_reducible refine qqW fun C hC=>?_)|((with_reducible intro C hC);(with_reducible refine qqX ?_)));(first|(simp only [go_sem, cells_enc, tc_len, Ty.tc];(first|((with_reducible apply ACall.pure0 [] (typ_ok 3 0 []));(focus (exact vwA))))));(simp only [go_sem, cells_enc, tc_len, Ty.tc]);((with_reducible first|refine finA hC ?_|refine finD hC ?_);clear hC C))|((with_reducible first|refine qqT fun C hC=>?_|refine qqU fun C hC=>?_|intro C hC);simp only [go_sem, cells_enc, tc_len, Ty.tc];((with_reducible first|refine finA hC ?_|refine finD hC ?_);clear hC C))|(with_reducible first|refine qqA fun K hK=>?_|refine qqB fun K hK=>?_|refine qqC fun K hK=>?_|(refine qqD ?_;refine hK _ _ ?_;try clear hK K)|(refine qqE ?_;refine hK _ _ _ ?_ ?_;(focus kernel_rfl);try clear hK K)|(refine qqF ?_;refine hK _ _ ?_;try clear hK K)|refine qqG ?_|refine qqH ?_|refine qqI ?_|refine qqJ ?_|refine qqK ?_|(refine qqL ?_;try clear hK K)|(refine qqM ?_;try clear hK K)|refine qqN ?_|refine qqO ?_|(refine qqP ?_ ?_;focus decide))|((with_reducible first|apply qqQ|apply qqR|apply qqS);focus (simp only [go_sem, cells_enc, tc_len, Ty.tc];exact rfl))|(with_reducible first|refine gk_tt ?_|refine gk_ff ?_|refine ck_t ?_|refine ck_f ?_)|((with_reducible first|refine gk_tf ?_|refine gk_ft ?_|refine gk_u ?_|refine gk_u' ?_);first|(intro _ e;(first|rw [qqY] at e|rw [qqZ] at e);subst e)|(intro _ _ e e';(first|rw [qqY] at e|rw [qqZ] at e);subst e;subst e'))))
  (refine retP_ret (List.range 40) rfl ?_; exact vwA)
/-- the place of the first one -/
def idxF {α : Type} (p : α → Bool) : List α → Nat → Int
  | [], _ => -1
  | x :: xs, i => if p x then (i : Int) else idxF p xs (i + 1)
set_option maxHeartbeats 1000000 in
theorem idxT_ok (fid : FuncId) (caps : List PV) (p : Ty → Bool) (ts : List Ty) (hp : ∀ t ∈ ts, PCall Try.prog fid ([Ty.enc t] ++ caps) (bb (p t))) : PCall Try.prog 84 [.list 3 (encL ts), .fn fid caps] (ii (idxF p ts 0)) := by
  refine PCall.intro' (ps := [ii (idxF p ts 0)]) fn84 (by simp) fun hok => ?_
  have hss : ts.length ≤ 1099511627776 := by
    simp only [PV.okL, PV.ok, encL_len, big] at hok; exact hok.1.1
  clear hok
  unfold ac84
  simp only [argFr]
  (repeat' (first|((with_reducible first|refine qqT fun C hC=>?_|refine qqU fun C hC=>?_|intro C hC);simp only [go_sem, encL_len];((with_reducible first|refine finA hC ?_|refine finD hC ?_);clear hC C))|(with_reducible first|refine qqA fun K hK=>?_|refine qqB fun K hK=>?_|refine qqC fun K hK=>?_|(refine qqD ?_;refine hK _ _ ?_;try clear hK K)|(refine qqE ?_;refine hK _ _ _ ?_ ?_;(focus kernel_rfl);try clear hK K)|(refine qqF ?_;refine hK _ _ ?_;try clear hK K)|refine qqG ?_|refine qqH ?_|refine qqI ?_|refine qqJ ?_|refine qqK ?_|(refine qqL ?_;try clear hK K)|(refine qqM ?_;try clear hK K)|refine qqN ?_|refine qqO ?_|(refine qqP ?_ ?_;focus decide))|((with_reducible first|apply qqQ|apply qqR|apply qqS);focus (simp only [go_sem, encL_len];exact rfl))|(with_reducible first|refine gk_tt ?_|refine gk_ff ?_|refine ck_t ?_|refine ck_f ?_)|((with_reducible first|refine gk_tf ?_|refine gk_ft ?_|refine gk_u ?_|refine gk_u' ?_);first|(intro _ e;(first|rw [qqY] at e|rw [qqZ] at e);subst e)|(intro _ _ e e';(first|rw [qqY] at e|rw [qqZ] at e);subst e;subst e'))))
  have rows : ∀ (rest pre : List Ty), pre ++ rest = ts → idxF p ts 0 = idxF p rest pre.length → loopN (awp Try.prog ac84_l0) (catch_ 0 (thn K (retP [RV.tmp 4] [ii (idxF p ts 0)]))) (rest.length + 1)
     [(8, .pv (ii pre.length)), (7, .pv (ii ts.length)), (1, .pv (.fn fid caps)), (0, .pv (.list 3 (encL ts)))] [] := by
    intro rest
    induction rest with
    | nil =>
      intro pre hpre hi
      have hpre : pre = ts := by simpa using hpre
      subst hpre
      refine loopN_k fun K1 hK1 => ?_
      unfold ac84_l0
      (repeat' (first|((with_reducible first|refine qqT fun C hC=>?_|refine qqU fun C hC=>?_|intro C hC);simp only [go_sem, lt_end];((with_reducible first|refine finA hC ?_|refine finD hC ?_);clear hC C))|(with_reducible first|refine qqA fun K hK=>?_|refine qqB fun K hK=>?_|refine qqC fun K hK=>?_|(refine qqD ?_;refine hK _ _ ?_;try clear hK K)|(refine qqE ?_;refine hK _ _ _ ?_ ?_;(focus kernel_rfl);try clear hK K)|(refine qqF ?_;refine hK _ _ ?_;try clear hK K)|refine qqG ?_|refine qqH ?_|refine qqI ?_|refine qqJ ?_|refine qqK ?_|(refine qqL ?_;try clear hK K)|(refine qqM ?_;try clear hK K)|refine qqN ?_|refine qqO ?_|(refine qqP ?_ ?_;focus decide))|((with_reducible first|apply qqQ|apply qqR|apply qqS);focus (simp only [go_sem, lt_end];exact rfl))|(with_reducible first|refine gk_tt ?_|refine gk_ff ?_|refine ck_t ?_|refine ck_f ?_)|((with_reducible first|refine gk_tf ?_|refine gk_ft ?_|refine gk_u ?_|refine gk_u' ?_);first|(intro _ e;(first|rw [qqY] at e|rw [qqZ] at e);subst e)|(intro _ _ e e';(first|rw [qqY] at e|rw [qqZ] at e);subst e;subst e'))))
      rw [hi]
      (refine retP_ret (List.range 40) rfl ?_; (try simp only [idxF, if_true, if_false, Bool.false_eq_true, Bool.not_true, Bool.not_false]); exact vwA)
    | cons t rest ih =>
      intro pre hpre hi
      have hlt : decide ((pre.length : Int) < (ts.length : Int)) = true := by subst hpre; exact lt_app _ _ _
      have hat : (encL ts)[pre.length]? = some t.enc := by subst hpre; exact encL_at _ _ _
      have hb : pre.length + 1 ≤ big := by have := congrArg List.length hpre; simp at this; unfold big; omega
      have hc := hp t (by subst hpre; simp)
      refine loopN_k fun K1 hK1 => ?_
      unfold ac84_l0
      cases hpt : p t with
      | true =>
        rw [hpt] at hc
        (repeat' (first|((first|(with_reducible refine qqV fun C hC=>?_)|(with_reducible refine qqW fun C hC=>?_)|((with_reducible intro C hC);(with_reducible refine qqX ?_)));(first|(simp only [go_sem, hlt, hat, cells_enc, pcells_enc];(first|((with_reducible refine ACall.pure [] (.pv _) ?_ (hc) ?_);(focus (exact vwA))))));(simp only [go_sem, hlt, hat, cells_enc, pcells_enc]);((with_reducible first|refine finA hC ?_|refine finD hC ?_);clear hC C))|((with_reducible first|refine qqT fun C hC=>?_|refine qqU fun C hC=>?_|intro C hC);simp only [go_sem, hlt, hat, cells_enc, pcells_enc];((with_reducible first|refine finA hC ?_|refine finD hC ?_);clear hC C))|(with_reducible first|refine qqA fun K hK=>?_|refine qqB fun K hK=>?_|refine qqC fun K hK=>?_|(refine qqD ?_;refine hK _ _ ?_;try clear hK K)|(refine qqE ?_;refine hK _ _ _ ?_ ?_;(focus kernel_rfl);try clear hK K)|(refine qqF ?_;refine hK _ _ ?_;try clear hK K)|refine qqG ?_|refine qqH ?_|refine qqI ?_|refine qqJ ?_|refine qqK ?_|(refine qqL ?_;try clear hK K)|(refine qqM ?_;try clear hK K)|refine qqN ?_|refine qqO ?_|(refine qqP ?_ ?_;focus decide))|((with_reducible first|apply qqQ|apply qqR|apply qqS);focus (simp only [go_sem, hlt, hat, cells_enc, pcells_enc];exact rfl))|(with_reducible first|refine gk_tt ?_|refine gk_ff ?_|refine ck_t ?_|refine ck_f ?_)|((with_reducible first|refine gk_tf ?_|refine gk_ft ?_|refine gk_u ?_|refine gk_u' ?_);first|(intro _ e;(first|rw [qqY] at e|rw [qqZ] at e);subst e)|(intro _ _ e e';(first|rw [qqY] at e|rw [qqZ] at e);subst e;subst e'))))
        simp only [idxF, hpt, if_true] at hi
        rw [hi]
        (refine retP_ret (List.range 40) rfl ?_; exact vwA)
      | false =>
        rw [hpt] at hc
        (repeat' (first|((first|(with_reducible refine qqV fun C hC=>?_)|(with_reducible refine qqW fun C hC=>?_)|((with_reducible intro C hC);(with_reducible refine qqX ?_)));(first|(simp only [go_sem, hlt, hat, cells_enc, pcells_enc];(first|((with_reducible refine ACall.pure [] (.pv _) ?_ (hc) ?_);(focus (exact vwA))))));(simp only [go_sem, hlt, hat, cells_enc, pcells_enc]);((with_reducible first|refine finA hC ?_|refine finD hC ?_);clear hC C))|((with_reducible first|refine qqT fun C hC=>?_|refine qqU fun C hC=>?_|intro C hC);simp only [go_sem, hlt, hat, cells_enc, pcells_enc];((with_reducible first|refine finA hC ?_|refine finD hC ?_);clear hC C))|(with_reducible first|refine qqA fun K hK=>?_|refine qqB fun K hK=>?_|refine qqC fun K hK=>?_|(refine qqD ?_;refine hK _ _ ?_;try clear hK K)|(refine qqE ?_;refine hK _ _ _ ?_ ?_;(focus kernel_rfl);try clear hK K)|(refine qqF ?_;refine hK _ _ ?_;try clear hK K)|refine qqG ?_|refine qqH ?_|refine qqI ?_|refine qqJ ?_|refine qqK ?_|(refine qqL ?_;try clear hK K)|(refine qqM ?_;try clear hK K)|refine qqN ?_|refine qqO ?_|(refine qqP ?_ ?_;focus decide))|((with_reducible first|apply qqQ|apply qqR|apply qqS);focus (simp only [go_sem, hlt, hat, cells_enc, pcells_enc];exact rfl))|(with_reducible first|refine gk_tt ?_|refine gk_ff ?_|refine ck_t ?_|refine ck_f ?_)|((with_reducible first|refine gk_tf ?_|refine gk_ft ?_|refine gk_u ?_|refine gk_u' ?_);first|(intro _ e;(first|rw [qqY] at e|rw [qqZ] at e);subst e)|(intro _ _ e e';(first|rw [qqY] at e|rw [qqZ] at e);subst e;subst e'))))
        have hw := wrapS (n := pre.length) (by unfold big at hb; omega)
        refine qqF ?_
        refine hK1 _ _ _ _ _ (LeB [] (by refine ⟨?_, ?_, ?_⟩ <;> simp only [leFr, leFb, leHp, V.ren, V.renL, V.bd, V.bdL, allL, lt, Go.Ab.get, hget, List.map_cons, List.map_nil, List.length_cons, List.length_nil, List.length_append, List.getElem?_cons_zero, List.getElem?_cons_succ, List.getElem?_nil, Option.join_some, Option.join_none, List.getD_cons_zero, List.getD_cons_succ, List.getD_nil, Nat.reduceAdd, Nat.reduceLT, Nat.reduceEqDiff, Nat.zero_add, reduceIte, if_true, if_false, and_true, true_and, renL_vcells, allL_vcells, renL_pv, leBlk_some, eq_self, true_or, or_true, reduceCtorEq, false_or, hw, List.length_append])) (ih (pre ++ [t]) (by simp [hpre]) (by simpa [idxF, hpt] using hi))
  refine awp_loop_k _ (LeB [] (by refine ⟨?_, ?_, ?_⟩ <;> simp only [leFr, leFb, leHp, V.ren, V.renL, V.bd, V.bdL, allL, lt, Go.Ab.get, hget, List.map_cons, List.map_nil, List.length_cons, List.length_nil, List.length_append, List.getElem?_cons_zero, List.getElem?_cons_succ, List.getElem?_nil, Option.join_some, Option.join_none, List.getD_cons_zero, List.getD_cons_succ, List.getD_nil, Nat.reduceAdd, Nat.reduceLT, Nat.reduceEqDiff, Nat.zero_add, reduceIte, if_true, if_false, and_true, true_and, renL_vcells, allL_vcells, renL_pv, leBlk_some, eq_self, true_or, or_true, reduceCtorEq, false_or, c0])) (rows ts [] rfl rfl)
theorem idxF_ge {α : Type} (p : α → Bool) : ∀ (ts : List α) (i : Nat), decide (idxF p ts i ≥ 0) = ts.any p
  | [], _ => rfl
  | t :: ts, i => by
    simp only [idxF, List.any_cons]
    by_cases h : p t = true
    · simp only [h, if_true, Bool.true_or, decide_eq_true_eq]; omega
    · simp only [h, Bool.false_or, Bool.false_eq_true, if_false]; exact idxF_ge p ts (i + 1)
theorem hasT_ok (fid : FuncId) (caps : List PV) (p : Ty → Bool) (ts : List Ty) (hp : ∀ t ∈ ts, PCall Try.prog fid ([Ty.enc t] ++ caps) (bb (p t))) : PCall Try.prog 68 [.list 3 (encL ts), .fn fid caps] (bb (ts.any p)) := by
  have h := idxT_ok fid caps p ts hp
  refine PCall.intro (ps := [bb (ts.any p)]) fn68 (by simp) ?_
  unfold ac68
  simp only [argFr]
  (repeat' (first|((first|(with_reducible refine qqV fun C hC=>?_)|(with_reducible refine qqW fun C hC=>?_)|((with_reducible intro C hC);(with_reducible refine qqX ?_)));(first|(simp only [go_sem, idxF_ge];(first|((with_reducible apply ACall.pure0 [] (h));(focus (exact vwA))))));(simp only [go_sem, idxF_ge]);((with_reducible first|refine finA hC ?_|refine finD hC ?_);clear hC C))|((with_reducible first|refine qqT fun C hC=>?_|refine qqU fun C hC=>?_|intro C hC);simp only [go_sem, idxF_ge];((with_reducible first|refine finA hC ?_|refine finD hC ?_);clear hC C))|(with_reducible first|refine qqA fun K hK=>?_|refine qqB fun K hK=>?_|refine qqC fun K hK=>?_|(refine qqD ?_;refine hK _ _ ?_;try clear hK K)|(refine qqE ?_;refine hK _ _ _ ?_ ?_;(focus kernel_rfl);try clear hK K)|(refine qqF ?_;refine hK _ _ ?_;try clear hK K)|refine qqG ?_|refine qqH ?_|refine qqI ?_|refine qqJ ?_|refine qqK ?_|(refine qqL ?_;try clear hK K)|(refine qqM ?_;try clear hK K)|refine qqN ?_|refine qqO ?_|(refine qqP ?_ ?_;focus decide))|((with_reducible first|apply qqQ|apply qqR|apply qqS);focus (simp only [go_sem, idxF_ge];exact rfl))|(with_reducible first|refine gk_tt ?_|refine gk_ff ?_|refine ck_t ?_|refine ck_f ?_)|((with_reducible first|refine gk_tf ?_|refine gk_ft ?_|refine gk_u ?_|refine gk_u' ?_);first|(intro _ e;(first|rw [qqY] at e|rw [qqZ] at e);subst e)|(intro _ _ e e';(first|rw [qqY] at e|rw [qqZ] at e);subst e;subst e'))))
  (refine retP_ret (List.range 40) rfl ?_; exact vwA)
end Go.Proofs.Ytiediojibljpiaa
/- Types: equality. -/
set_option maxRecDepth 10000
set_option linter.unusedSimpArgs false
set_option linter.unusedVariables false
namespace Go.Proofs.Ytiediojibljpiaa
open Go Go.Ab
mutual
def eqT : Ty → Ty → Bool
  | .mk k i ss, .mk k' i' ss' => if k == k' then if i == i' then eqTL ss ss' else false else false
def eqTL : List Ty → List Ty → Bool
  | [], [] => true
  | a :: xs, b :: ys => if eqT a b then eqTL xs ys else false
  | [], _ :: _ => false
  | _ :: _, [] => false
end
mutual
theorem eqT_iff : ∀ a b : Ty, eqT a b = true ↔ a = b
  | .mk k i ss, .mk k' i' ss' => by
    simp only [eqT, Ty.mk.injEq]
    by_cases h : k = k'
    · by_cases h2 : i = i'
      · simp [h, h2, eqTL_iff ss ss']
      · simp [h, h2]
    · simp [h]
theorem eqTL_iff : ∀ a b : List Ty, eqTL a b = true ↔ a = b
  | [], [] => by simp [eqTL]
  | a :: xs, b :: ys => by
    simp only [eqTL, List.cons.injEq]
    by_cases h : eqT a b = true
    · have e := (eqT_iff a b).1 h
      rw [if_pos h, eqTL_iff xs ys]; simp [e]
    · have : ¬ a = b := fun e => h ((eqT_iff a b).2 e)
      simp [h, this]
  | [], b :: ys => by simp [eqTL]
  | a :: xs, [] => by simp [eqTL]
end
theorem eqTL_len {xs ys : List Ty} (h : ((xs.length : Int) != (ys.length : Int)) = true) : eqTL xs ys = false := by
  cases he : eqTL xs ys with
  | false => rfl
  | true => have := (eqTL_iff xs ys).1 he; subst this; simp at h
theorem eqT_eq (a b : Ty) : eqT a b = if a.kd == b.kd then if a.id == b.id then eqTL a.args b.args else false else false := by
  cases a; cases b; simp only [eqT]; rfl
end Go.Proofs.Ytiediojibljpiaa
/- Types: Substitute; lists of integers. -/
set_option maxRecDepth 10000
set_option linter.unusedSimpArgs false
set_option linter.unusedVariables false
namespace Go.Proofs.Ytiediojibljpiaa
open Go Go.Ab
structure Bd where
  v : Int
  t : Ty
def Bd.enc (b : Bd) : PV := .agg [ii b.v, ii b.t.kd, ii b.t.id, .list 3 (encL b.t.args)]
def encB (bs : List Bd) : List PV := bs.map Bd.enc
theorem encB_len (ts : List Bd) : (encB ts).length = ts.length := by simp [encB]
theorem encB_at (ts us : List Bd) (t : Bd) : (encB (ts ++ t :: us))[ts.length]? = some t.enc := by simp [encB]
theorem pcells_bd (b : Bd) : b.enc.cells = [ii b.v, ii b.t.kd, ii b.t.id, .list 3 (encL b.t.args)] := rfl
def findB : List Bd → Int → Option Ty
  | [], _ => none
  | b :: bs, id => if b.v == id then some b.t else findB bs id
theorem findB_none {id : Int} : ∀ {bs : List Bd}, (∀ x ∈ bs, (x.v == id) = false) → findB bs id = none
  | [], _ => rfl
  | b :: bs, h => by simp only [findB, h b (by simp), Bool.false_eq_true, if_false]; exact findB_none fun x hx => h x (by simp [hx])
def subG (s : List Bd) (u : Ty) : Ty × Bool := if u.kd == 1 then (match findB s u.id with | some t => (t, true) | none => (u, false)) else (u, false)
def subT (s : List Bd) (t : Ty) : Ty := mapT (subG s) t
def encI (xs : List Int) : List PV := xs.map fun x => ii x
end Go.Proofs.Ytiediojibljpiaa
