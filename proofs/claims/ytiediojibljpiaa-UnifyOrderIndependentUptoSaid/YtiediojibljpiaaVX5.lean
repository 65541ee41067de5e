/- X5: joined from ZX5. -/
import Derived.Test.YtiediojibljpiaaVFnU
import Derived.Test.YtiediojibljpiaaVX4
/- UnifyOrderIndependent: the iterator's walk. -/
set_option maxRecDepth 10000
set_option linter.unusedSimpArgs false
set_option linter.unusedVariables false
namespace Go.Proofs.Ytiediojibljpiaa
open Go Go.Ab Go.RowKit
def frpL (fr : Fr) : Fr → Prop
  | [] => True
  | (t, v) :: l => (∃ p, v = .pv p ∧ Ab.get fr t = .pv p) ∧ frpL fr l
theorem frpL_get {fr : Fr} : ∀ {frT : Fr}, frpL fr frT → ∀ t, Ab.get frT t = .junk ∨ ∃ p, Ab.get frT t = .pv p ∧ Ab.get fr t = .pv p
  | [], _, t => .inl rfl
  | (s, v) :: l, ⟨⟨p, e1, e2⟩, h⟩, t => by
    by_cases hs : s = t
    · subst hs; subst e1
      exact .inr ⟨p, by simp [Ab.get], e2⟩
    · simp only [Ab.get, if_neg hs]
      exact frpL_get h t
def FrP (frT : Fr) (HT : Hp) : Post := fun e fr H => e = .normal ∧ H = HT ∧ frpL fr frT
theorem st_frp {N : Nat} {G : Gh} {fr frT : Fr} {H HT : Hp} {a : Act} {w : World} (h : FrP frT HT .normal fr H) (st : ASt N G fr H a w) : ASt N G frT HT a w := by
  obtain ⟨_, rfl, h⟩ := h
  refine ⟨st.rel, fun t => ?_, fun t => ?_, st.size, st.defers⟩
  · rcases frpL_get h t with e | ⟨p, e, e2⟩
    · rw [e]; simp [R]
    · have := st.fr t; rw [e]; rw [e2] at this; exact this
  · rcases frpL_get h t with e | ⟨p, e, e2⟩
    · rw [e]; simp [V.bd]
    · rw [e]; simp [V.bd]
theorem jt_tr {T : Nat × Nat × Nat} {n0 l D : Nat} {fn : FuncId} {tm : Array Value} {rs : List Eqn} {G G' : Gh} {w w' : World} (J : Jt T n0 l D fn tm rs G w) (r : Rel (lt (Hc T rs)) G' (hget (Hc T rs)) w') (t : Tr G (hget (Hc T rs)) w G' (hget (Hc T rs)) w') :
    Jt T n0 l D fn tm rs G' w' :=
  ⟨r, tr_lo t J.lo J.size, tr_keep t J.rel J.loop rfl, tr_keep t J.rel J.dfr rfl, Nat.le_trans J.size t.size, J.nl⟩
theorem st_next {N d : Nat} {G G' : Gh} {fr : Fr} {H H' : Hp} {a : Act} {w w' : World} {v : Value} {p : PV} (st : ASt N G fr H a w) (hp : ∀ t, Ab.get fr t = .junk ∨ ∃ p, Ab.get fr t = .pv p) (hd : d < N) (r : Rel (lt H') G' (hget H') w') (hle : G.I.le G'.I) (hv : RP G'.I p v) :
    ASt N G' ((d, .pv p) :: fr) H' (a.put (some d) v) w' := by
  refine ⟨r, fun t => ?_, fun t => ?_, by simp [Act.put, st.size], by simp [Act.put, st.defers]⟩
  · have h0 : (a.put (some d) v).tmps.getD t undef = if d = t then v else a.tmps.getD t undef := getD_set st.size hd
    rw [h0]
    by_cases h : d = t
    · simp only [Ab.get, if_pos h, R]; exact hv
    · simp only [Ab.get, if_neg h]
      have := st.fr t
      rcases hp t with e | ⟨q, e⟩
      · rw [e]; simp [R]
      · rw [e] at this ⊢; simp only [R] at this ⊢; exact RP_mono hle _ _ this
  · by_cases h : d = t
    · simp [Ab.get, if_pos h, V.bd]
    · simp only [Ab.get, if_neg h]
      rcases hp t with e | ⟨q, e⟩ <;> rw [e] <;> simp [V.bd]
def frI (es : List Eqn) (l : Nat) (i : Int) : Fr := [(0, .pv (.lit (.func (.yield l) #[] #[]))), (1, .pv (.rptr [.list 6 (encQ es)])), (3, .pv (ii i))]
theorem r0_ok (es : List Eqn) (l : Nat) (H : Hp) (hb : es.length ≤ big) : awp Try.prog ac49_r0 (FrP (frI es l ((es.length : Int) - 1)) H) [(0, .pv (.lit (.func (.yield l) #[] #[]))), (1, .pv (.rptr [.list 6 (encQ es)]))] H := by
  have hw : IntKind.i64.wrap ((es.length : Int) - 1) = (es.length : Int) - 1 := by
    unfold big at hb
    exact IntWalk.i64_in _ (by omega)
  unfold ac49_r0
  (repeat' (first|((with_reducible first|refine qqT fun C hC=>?_|refine qqU fun C hC=>?_|intro C hC);simp only [go_sem, encQ_len, hw];((with_reducible first|refine finA hC ?_|refine finD hC ?_);clear hC C))|(with_reducible first|refine qqA fun K hK=>?_|refine qqB fun K hK=>?_|refine qqC fun K hK=>?_|(refine qqD ?_;refine hK _ _ ?_;try clear hK K)|(refine qqE ?_;refine hK _ _ _ ?_ ?_;(focus kernel_rfl);try clear hK K)|(refine qqF ?_;refine hK _ _ ?_;try clear hK K)|refine qqG ?_|refine qqH ?_|refine qqI ?_|refine qqJ ?_|refine qqK ?_|(refine qqL ?_;try clear hK K)|(refine qqM ?_;try clear hK K)|refine qqN ?_|refine qqO ?_|(refine qqP ?_ ?_;focus decide))|((with_reducible first|apply qqQ|apply qqR|apply qqS);focus (simp only [go_sem, encQ_len, hw];exact rfl))|(with_reducible first|refine gk_tt ?_|refine gk_ff ?_|refine ck_t ?_|refine ck_f ?_)|((with_reducible first|refine gk_tf ?_|refine gk_ft ?_|refine gk_u ?_|refine gk_u' ?_);first|(intro _ e;(first|rw [qqY] at e|rw [qqZ] at e);subst e)|(intro _ _ e e';(first|rw [qqY] at e|rw [qqZ] at e);subst e;subst e'))))
  exact ⟨rfl, rfl, ⟨_, rfl, rfl⟩, ⟨_, rfl, rfl⟩, ⟨_, rfl, rfl⟩, trivial⟩
theorem r1_ok (es : List Eqn) (l : Nat) (i : Int) (H : Hp) : awp Try.prog ac49_r1 (FrP ((8, .pv (bb (decide (i ≥ 0)))) :: frI es l i) H) (frI es l i) H := by
  unfold ac49_r1 frI
  (repeat' (first|((with_reducible first|refine qqT fun C hC=>?_|refine qqU fun C hC=>?_|intro C hC);simp only [go_sem];((with_reducible first|refine finA hC ?_|refine finD hC ?_);clear hC C))|(with_reducible first|refine qqA fun K hK=>?_|refine qqB fun K hK=>?_|refine qqC fun K hK=>?_|(refine qqD ?_;refine hK _ _ ?_;try clear hK K)|(refine qqE ?_;refine hK _ _ _ ?_ ?_;(focus kernel_rfl);try clear hK K)|(refine qqF ?_;refine hK _ _ ?_;try clear hK K)|refine qqG ?_|refine qqH ?_|refine qqI ?_|refine qqJ ?_|refine qqK ?_|(refine qqL ?_;try clear hK K)|(refine qqM ?_;try clear hK K)|refine qqN ?_|refine qqO ?_|(refine qqP ?_ ?_;focus decide))|((with_reducible first|apply qqQ|apply qqR|apply qqS);focus (simp only [go_sem];exact rfl))|(with_reducible first|refine gk_tt ?_|refine gk_ff ?_|refine ck_t ?_|refine ck_f ?_)|((with_reducible first|refine gk_tf ?_|refine gk_ft ?_|refine gk_u ?_|refine gk_u' ?_);first|(intro _ e;(first|rw [qqY] at e|rw [qqZ] at e);subst e)|(intro _ _ e e';(first|rw [qqY] at e|rw [qqZ] at e);subst e;subst e'))))
  exact ⟨rfl, rfl, ⟨_, rfl, rfl⟩, ⟨_, rfl, rfl⟩, ⟨_, rfl, rfl⟩, ⟨_, rfl, rfl⟩, trivial⟩
theorem r2_ok (es : List Eqn) (l : Nat) (k : Nat) (H : Hp) (hk : k ≤ big) : awp Try.prog ac49_r2 (FrP (frI es l ((k : Int) - 1)) H) (frI es l k) H := by
  have hw : IntKind.i64.wrap ((k : Int) - 1) = (k : Int) - 1 := by
    unfold big at hk
    exact IntWalk.i64_in _ (by omega)
  unfold ac49_r2 frI
  (repeat' (first|((with_reducible first|refine qqT fun C hC=>?_|refine qqU fun C hC=>?_|intro C hC);simp only [go_sem, hw];((with_reducible first|refine finA hC ?_|refine finD hC ?_);clear hC C))|(with_reducible first|refine qqA fun K hK=>?_|refine qqB fun K hK=>?_|refine qqC fun K hK=>?_|(refine qqD ?_;refine hK _ _ ?_;try clear hK K)|(refine qqE ?_;refine hK _ _ _ ?_ ?_;(focus kernel_rfl);try clear hK K)|(refine qqF ?_;refine hK _ _ ?_;try clear hK K)|refine qqG ?_|refine qqH ?_|refine qqI ?_|refine qqJ ?_|refine qqK ?_|(refine qqL ?_;try clear hK K)|(refine qqM ?_;try clear hK K)|refine qqN ?_|refine qqO ?_|(refine qqP ?_ ?_;focus decide))|((with_reducible first|apply qqQ|apply qqR|apply qqS);focus (simp only [go_sem, hw];exact rfl))|(with_reducible first|refine gk_tt ?_|refine gk_ff ?_|refine ck_t ?_|refine ck_f ?_)|((with_reducible first|refine gk_tf ?_|refine gk_ft ?_|refine gk_u ?_|refine gk_u' ?_);first|(intro _ e;(first|rw [qqY] at e|rw [qqZ] at e);subst e)|(intro _ _ e e';(first|rw [qqY] at e|rw [qqZ] at e);subst e;subst e'))))
  exact ⟨rfl, rfl, ⟨_, rfl, rfl⟩, ⟨_, rfl, rfl⟩, ⟨_, rfl, rfl⟩, trivial⟩
theorem ra_ok (es : List Eqn) (e : Eqn) (l : Nat) (k : Nat) (H : Hp) (hat : (encQ es)[k]? = some e.enc) : awp Try.prog (.reg ac49_a) (FrP ((11, .pv (.lit (.func (.yield l) #[] #[]))) :: (12, .pv (ii k)) :: (16, .pv e.enc) :: frI es l k) H) (frI es l k) H := by
  unfold ac49_a frI
  (repeat' (first|((with_reducible first|refine qqT fun C hC=>?_|refine qqU fun C hC=>?_|intro C hC);simp only [go_sem, hat, cells_eqn, pcells_eqn];((with_reducible first|refine finA hC ?_|refine finD hC ?_);clear hC C))|(with_reducible first|refine qqA fun K hK=>?_|refine qqB fun K hK=>?_|refine qqC fun K hK=>?_|(refine qqD ?_;refine hK _ _ ?_;try clear hK K)|(refine qqE ?_;refine hK _ _ _ ?_ ?_;(focus kernel_rfl);try clear hK K)|(refine qqF ?_;refine hK _ _ ?_;try clear hK K)|refine qqG ?_|refine qqH ?_|refine qqI ?_|refine qqJ ?_|refine qqK ?_|(refine qqL ?_;try clear hK K)|(refine qqM ?_;try clear hK K)|refine qqN ?_|refine qqO ?_|(refine qqP ?_ ?_;focus decide))|((with_reducible first|apply qqQ|apply qqR|apply qqS);focus (simp only [go_sem, hat, cells_eqn, pcells_eqn];exact rfl))|(with_reducible first|refine gk_tt ?_|refine gk_ff ?_|refine ck_t ?_|refine ck_f ?_)|((with_reducible first|refine gk_tf ?_|refine gk_ft ?_|refine gk_u ?_|refine gk_u' ?_);first|(intro _ e;(first|rw [qqY] at e|rw [qqZ] at e);subst e)|(intro _ _ e e';(first|rw [qqY] at e|rw [qqZ] at e);subst e;subst e'))))
  exact ⟨rfl, rfl, ⟨_, rfl, rfl⟩, ⟨_, rfl, rfl⟩, ⟨_, rfl, rfl⟩, ⟨_, rfl, rfl⟩, ⟨_, rfl, rfl⟩, ⟨_, rfl, rfl⟩, trivial⟩
theorem rb_ok (fr : Fr) (es : List Eqn) (l : Nat) (k : Nat) (H : Hp) (h0 : frpL fr (frI es l k)) : awp Try.prog (.reg ac49_b) (FrP ((18, .pv (bb false)) :: frI es l k) H) ((17, .pv (bb true)) :: fr) H := by
  unfold ac49_b
  obtain ⟨⟨_, h1, h1'⟩, ⟨_, h2, h2'⟩, ⟨_, h3, h3'⟩, _⟩ := h0
  (repeat' (first|((with_reducible first|refine qqT fun C hC=>?_|refine qqU fun C hC=>?_|intro C hC);simp only [go_sem];((with_reducible first|refine finA hC ?_|refine finD hC ?_);clear hC C))|(with_reducible first|refine qqA fun K hK=>?_|refine qqB fun K hK=>?_|refine qqC fun K hK=>?_|(refine qqD ?_;refine hK _ _ ?_;try clear hK K)|(refine qqE ?_;refine hK _ _ _ ?_ ?_;(focus kernel_rfl);try clear hK K)|(refine qqF ?_;refine hK _ _ ?_;try clear hK K)|refine qqG ?_|refine qqH ?_|refine qqI ?_|refine qqJ ?_|refine qqK ?_|(refine qqL ?_;try clear hK K)|(refine qqM ?_;try clear hK K)|refine qqN ?_|refine qqO ?_|(refine qqP ?_ ?_;focus decide))|((with_reducible first|apply qqQ|apply qqR|apply qqS);focus (simp only [go_sem];exact rfl))|(with_reducible first|refine gk_tt ?_|refine gk_ff ?_|refine ck_t ?_|refine ck_f ?_)|((with_reducible first|refine gk_tf ?_|refine gk_ft ?_|refine gk_u ?_|refine gk_u' ?_);first|(intro _ e;(first|rw [qqY] at e|rw [qqZ] at e);subst e)|(intro _ _ e e';(first|rw [qqY] at e|rw [qqZ] at e);subst e;subst e'))))
  refine ⟨rfl, rfl, ⟨_, rfl, rfl⟩, ⟨_, h1, ?_⟩, ⟨_, h2, ?_⟩, ⟨_, h3, ?_⟩, trivial⟩
  · exact h1'
  · exact h2'
  · exact h3'
end Go.Proofs.Ytiediojibljpiaa
