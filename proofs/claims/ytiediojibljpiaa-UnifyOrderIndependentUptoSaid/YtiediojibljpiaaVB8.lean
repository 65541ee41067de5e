/- B8: joined from ZU8. -/
import Derived.Test.YtiediojibljpiaaVFnU
import Derived.Test.YtiediojibljpiaaVB7
/- unify.Unify: what it answers, by the sorting's contract. -/
set_option maxRecDepth 10000
set_option linter.unusedSimpArgs false
set_option linter.unusedVariables false
namespace Go.Proofs.Ytiediojibljpiaa
open Go Go.Ab
theorem hh_bd {h : HF} {ρ : List Nat} {nb : Nat} {xs : List Bd} {tg : Option (Nat × Nat × Nat)} (e : h (rho ρ nb 0) = some ⟨false, 42, 4, xs.map Bd.tc, tg⟩) :
    ∀ i k, hget [some (rowB xs)] i = some k → ∃ k', h (rho ρ nb i) = some k' ∧ BlkWk (rho ρ nb) k' k := fun i k ek => by
  cases i with
  | zero =>
    simp only [hget, List.getElem?_cons_zero, Option.join_some, Option.some.injEq] at ek
    subst ek
    exact ⟨_, e, .of (k := rowB xs) (by rw [renL_bd]; exact WkX.refl _)⟩
  | succ i => simp [hget] at ek
/-- what is asked of slices.SortFunc -/
def SortOk (xs bs : List Bd) : Prop := MCall Try.prog 36 [.row 0 xs.length false, .pv (.fn 37 [])] [some (rowB xs)] (.pv (.tup [])) [some (rowB bs)]
def Sort0 : Prop := PCall Try.prog 36 [.lit (.slice none 0 0), .fn 37 []] (.tup [])
theorem bsOf_perm {L : SB} {σ : Ty → Ty} {seen : List Nat} (hnd : seen.Nodup) (hlt : ∀ i ∈ seen, i < L.length) (hall : ∀ i, i < L.length → i ∈ seen) : (bsOf L σ seen).Perm (L.map fun x => ⟨x.1, σ x.2⟩) := by
  have h1 : seen.Perm (List.range L.length) := (List.perm_ext_iff_of_nodup hnd List.nodup_range).2 fun i => by rw [List.mem_range]; exact ⟨hlt i, hall i⟩
  have h2 : (List.range L.length).map (bdOf L σ) = L.map fun x => ⟨x.1, σ x.2⟩ := by
    refine List.ext_getElem (by simp) fun i h1 h2 => ?_
    have hi : i < L.length := by simpa using h1
    simp only [List.getElem_map, List.getElem_range, bdOf, List.getElem?_eq_getElem hi]
  rw [← h2]
  exact h1.map _
set_option maxHeartbeats 4000000 in
theorem unify_run {es : List Eqn} (h1 : decide ((es.length : Int) > 100) = false) (h2 : es.any badQ = false) {r : Bool} {L : SB} (hrun : runR [] es r L) {σ : Ty → Ty} (hσ : Sg L σ) (hg : ∀ x ∈ L, good x.2) (hlen : L.length ≤ 1000000000) {bs : List Bd} {ok : Bool}
    (hr : r = false → bs = [] ∧ ok = false) (hans : allLim L σ = false → bs = [] ∧ ok = false)
    (hs : r = true → allLim L σ = true → ok = true ∧ (L = [] → bs = []) ∧ Sort0 ∧ ∀ xs : List Bd, xs ≠ [] → xs.Perm (L.map fun x => ⟨x.1, σ x.2⟩) → xs.length = bs.length ∧ SortOk xs bs) : PCall Try.prog 9 [.list 6 (encQ es)] (ansV bs ok) := by
  refine PCall.ofO (OCall.intro' fn9 (by simp) fun hok => ?_)
  clear hok
  have hes : es.length ≤ 100 := by have := of_decide_eq_false h1; omega
  have hc := hasQ_ok 31 [] badQ es fun e _ => by rw [List.append_nil]; exact badQ_ok e
  rw [h2] at hc
  have hnew := new_ok ON
  unfold ac9
  simp only [argFr]
  (repeat' (first|((with_reducible refine aopsO_call0 hnew ?_ ?_ ?_);(focus (simp only [go_sem];done));(focus (simp only [go_sem, enc_eq];done));rintro _ _ _ ⟨s, m, fs, fm, hsm, rfl, rfl⟩ e;(first|rw [qqY] at e|rw [qqZ] at e);subst e)|((first|(with_reducible refine aopsO_call fun C hC=>?_));(first|(simp only [go_sem, encQ_len, h1];(first|((with_reducible apply ACall.pure0 [] (hc));(focus (exact vwA))))));(simp only [go_sem, encQ_len, h1]);((with_reducible refine finO hC ?_);clear hC C))|((first|(with_reducible refine aopsDO_call fun C hC=>?_));(first|(simp only [go_sem, encQ_len, h1];(first|((with_reducible apply ACall.pure0 [] (hc));(focus (exact vwA))))));(simp only [go_sem, encQ_len, h1]);((with_reducible refine finDO hC ?_);clear hC C))|((with_reducible refine aopsO_cons' fun C hC=>?_);simp only [go_sem, encQ_len, h1];((with_reducible refine finO hC ?_);clear hC C))|((with_reducible refine aopsO_ob' fun C hC=>?_);simp only [go_sem, encQ_len, h1];((with_reducible refine finOb hC ?_);clear hC C))|((with_reducible refine aopsDO_cons' fun C hC=>?_);simp only [go_sem, encQ_len, h1];((with_reducible refine finDO hC ?_);clear hC C))|((with_reducible refine aopsDO_ob' ?_ fun C hC=>?_);(focus rfl);simp only [go_sem, encQ_len, h1];((with_reducible refine finDOb hC ?_);clear hC C))|(with_reducible first|refine awpO_seq_k fun K hK=>?_|refine awpO_reg_k fun K hK=>?_|refine awpO_dreg_k fun K hK=>?_|(refine aopsO_nil ?_;refine hK _ _ _ ?_;try clear hK K)|(refine aopsDO_nil ?_;refine hK _ _ _ _ ?_ ?_;(focus kernel_rfl);try clear hK K)|(refine thnO_normal ?_;refine hK _ _ _ ?_;try clear hK K)|refine catchO_normal ?_|refine awpO_skip_k ?_|refine awpO_ret_k ?_|refine awpO_exit_k ?_|refine awpO_block_k ?_|(refine thnO_exit ?_;try clear hK K)|(refine thnO_ret ?_;try clear hK K)|refine catchO_ret ?_|refine catchO_exit ?_|(refine catchO_other ?_ ?_;focus decide))|((with_reducible first|apply aopsO_guard'|apply aopsDO_guard'|apply awpO_cond_g);focus (simp only [go_sem, encQ_len, h1];exact rfl))|(with_reducible first|refine gk_tt ?_|refine gk_ff ?_|refine ck_t ?_|refine ck_f ?_)|((with_reducible first|refine gk_tf ?_|refine gk_ft ?_|refine gk_u ?_|refine gk_u' ?_);first|(intro _ e;(first|rw [qqY] at e|rw [qqZ] at e);subst e)|(intro _ _ e e';(first|rw [qqY] at e|rw [qqZ] at e);subst e;subst e'))))
  refine awpO_loop_k _ (LeB [] (by refine ⟨?_, ?_, ?_⟩ <;> simp only [leFr, leFb, leHp, V.ren, V.renL, V.bd, V.bdL, allL, lt, Go.Ab.get, hget, List.map_cons, List.map_nil, List.length_cons, List.length_nil, List.length_append, List.getElem?_cons_zero, List.getElem?_cons_succ, List.getElem?_nil, Option.join_some, Option.join_none, List.getD_cons_zero, List.getD_cons_succ, List.getD_nil, Nat.reduceAdd, Nat.reduceLT, Nat.reduceEqDiff, Nat.zero_add, reduceIte, if_true, if_false, and_true, true_and, renL_vcells, allL_vcells, renL_pv, leBlk_some, eq_self, true_or, or_true, reduceCtorEq, false_or, c0])) (OLe.refl _) (q_rows hsm ON hes hr (fun fr p hrt g4 => hK _ _ _ ?_) es [] [] 0 rfl hrun)
  have hm2 := St_m ON s m p L
  (repeat' (first|((with_reducible refine aopsO_mrange ?_ hm2 fun k fk=>?_);(focus rfl))|((with_reducible refine aopsO_cons' fun C hC=>?_);simp only [go_sem, g4, St_s ON hsm];((with_reducible refine finO hC ?_);clear hC C))|((with_reducible refine aopsO_ob' fun C hC=>?_);simp only [go_sem, g4, St_s ON hsm];((with_reducible refine finOb hC ?_);clear hC C))|((with_reducible refine aopsDO_cons' fun C hC=>?_);simp only [go_sem, g4, St_s ON hsm];((with_reducible refine finDO hC ?_);clear hC C))|((with_reducible refine aopsDO_ob' ?_ fun C hC=>?_);(focus rfl);simp only [go_sem, g4, St_s ON hsm];((with_reducible refine finDOb hC ?_);clear hC C))|(with_reducible first|refine awpO_seq_k fun K hK=>?_|refine awpO_reg_k fun K hK=>?_|refine awpO_dreg_k fun K hK=>?_|(refine aopsO_nil ?_;refine hK _ _ _ ?_;try clear hK K)|(refine aopsDO_nil ?_;refine hK _ _ _ _ ?_ ?_;(focus kernel_rfl);try clear hK K)|(refine thnO_normal ?_;refine hK _ _ _ ?_;try clear hK K)|refine catchO_normal ?_|refine awpO_skip_k ?_|refine awpO_ret_k ?_|refine awpO_exit_k ?_|refine awpO_block_k ?_|(refine thnO_exit ?_;try clear hK K)|(refine thnO_ret ?_;try clear hK K)|refine catchO_ret ?_|refine catchO_exit ?_|(refine catchO_other ?_ ?_;focus decide))|((with_reducible first|apply aopsO_guard'|apply aopsDO_guard'|apply awpO_cond_g);focus (simp only [go_sem, g4, St_s ON hsm];exact rfl))|(with_reducible first|refine gk_tt ?_|refine gk_ff ?_|refine ck_t ?_|refine ck_f ?_)|((with_reducible first|refine gk_tf ?_|refine gk_ft ?_|refine gk_u ?_|refine gk_u' ?_);first|(intro _ e;(first|rw [qqY] at e|rw [qqZ] at e);subst e)|(intro _ _ e e';(first|rw [qqY] at e|rw [qqZ] at e);subst e;subst e'))))
  rw [encM_len]
  have n1 : k ≠ s := fun e => by rw [e, St_s ON hsm] at fk; cases fk
  have n2 : k ≠ m := fun e => by rw [e, St_m] at fk; cases fk
  refine awpO_loop_k _ (LeB [] (by refine ⟨?_, ?_, ?_⟩ <;> simp only [leFr, leFb, leHp, V.ren, V.renL, V.bd, V.bdL, allL, lt, Go.Ab.get, hget, List.map_cons, List.map_nil, List.length_cons, List.length_nil, List.length_append, List.getElem?_cons_zero, List.getElem?_cons_succ, List.getElem?_nil, Option.join_some, Option.join_none, List.getD_cons_zero, List.getD_cons_succ, List.getD_nil, Nat.reduceAdd, Nat.reduceLT, Nat.reduceEqDiff, Nat.zero_add, reduceIte, if_true, if_false, and_true, true_and, renL_vcells, allL_vcells, renL_pv, leBlk_some, eq_self, true_or, or_true, reduceCtorEq, false_or, g4])) (OLe.refl _) (b_first hsm n1 n2 ON hσ hg hlen hans (fun fr hL g7 => hK _ _ _ ?_) fun fr seen hne hnd hlt hall hlim g7 => hK _ _ _ ?_)
  · clear hc
    subst hL
    obtain ⟨rfl, hb, h0, _⟩ := hs hrt rfl
    have hb := hb rfl
    subst hb
    unfold Sort0 at h0
    (repeat' (first|((first|(with_reducible refine aopsO_call fun C hC=>?_));(first|(simp only [go_sem, g7];(first|((with_reducible apply ACall.pure0 [] (h0));(focus (exact vwA))))));(simp only [go_sem, g7]);((with_reducible refine finO hC ?_);clear hC C))|((first|(with_reducible refine aopsDO_call fun C hC=>?_));(first|(simp only [go_sem, g7];(first|((with_reducible apply ACall.pure0 [] (h0));(focus (exact vwA))))));(simp only [go_sem, g7]);((with_reducible refine finDO hC ?_);clear hC C))|((with_reducible refine aopsO_cons' fun C hC=>?_);simp only [go_sem, g7];((with_reducible refine finO hC ?_);clear hC C))|((with_reducible refine aopsO_ob' fun C hC=>?_);simp only [go_sem, g7];((with_reducible refine finOb hC ?_);clear hC C))|((with_reducible refine aopsDO_cons' fun C hC=>?_);simp only [go_sem, g7];((with_reducible refine finDO hC ?_);clear hC C))|((with_reducible refine aopsDO_ob' ?_ fun C hC=>?_);(focus rfl);simp only [go_sem, g7];((with_reducible refine finDOb hC ?_);clear hC C))|(with_reducible first|refine awpO_seq_k fun K hK=>?_|refine awpO_reg_k fun K hK=>?_|refine awpO_dreg_k fun K hK=>?_|(refine aopsO_nil ?_;refine hK _ _ _ ?_;try clear hK K)|(refine aopsDO_nil ?_;refine hK _ _ _ _ ?_ ?_;(focus kernel_rfl);try clear hK K)|(refine thnO_normal ?_;refine hK _ _ _ ?_;try clear hK K)|refine catchO_normal ?_|refine awpO_skip_k ?_|refine awpO_ret_k ?_|refine awpO_exit_k ?_|refine awpO_block_k ?_|(refine thnO_exit ?_;try clear hK K)|(refine thnO_ret ?_;try clear hK K)|refine catchO_ret ?_|refine catchO_exit ?_|(refine catchO_other ?_ ?_;focus decide))|((with_reducible first|apply aopsO_guard'|apply aopsDO_guard'|apply awpO_cond_g);focus (simp only [go_sem, g7];exact rfl))|(with_reducible first|refine gk_tt ?_|refine gk_ff ?_|refine ck_t ?_|refine ck_f ?_)|((with_reducible first|refine gk_tf ?_|refine gk_ft ?_|refine gk_u ?_|refine gk_u' ?_);first|(intro _ e;(first|rw [qqY] at e|rw [qqZ] at e);subst e)|(intro _ _ e e';(first|rw [qqY] at e|rw [qqZ] at e);subst e;subst e'))))
    refine retPO_ret (ps := [.list 4 (encB []), bb true]) (List.range 40) rfl ?_ (ole_N _) ⟨rfl, rfl⟩
    exact vwA
  · clear hc
    have hall2 : allLim L σ = true := by
      unfold allLim
      rw [List.all_eq_true]
      intro x hx
      obtain ⟨i, hi, rfl⟩ := List.mem_iff_getElem.1 hx
      have := hlim i (hall i hi)
      simpa [bdOf, List.getElem?_eq_getElem hi] using this
    obtain ⟨rfl, _, _, h3⟩ := hs hrt hall2
    have hxs : bsOf L σ seen ≠ [] := by
      cases seen with
      | nil => exact absurd rfl hne
      | cons a l => simp [bsOf]
    obtain ⟨e1, h4⟩ := h3 (bsOf L σ seen) hxs (bsOf_perm hnd hlt hall)
    unfold SortOk at h4
    rw [bsOf_len] at h4 e1
    (repeat' (first|((with_reducible refine aopsO_cons' fun C hC=>?_);simp only [go_sem, g7];((with_reducible refine finO hC ?_);clear hC C))|((with_reducible refine aopsO_ob' fun C hC=>?_);simp only [go_sem, g7];((with_reducible refine finOb hC ?_);clear hC C))|((with_reducible refine aopsDO_cons' fun C hC=>?_);simp only [go_sem, g7];((with_reducible refine finDO hC ?_);clear hC C))|((with_reducible refine aopsDO_ob' ?_ fun C hC=>?_);(focus rfl);simp only [go_sem, g7];((with_reducible refine finDOb hC ?_);clear hC C))|(with_reducible first|refine awpO_seq_k fun K hK=>?_|refine awpO_reg_k fun K hK=>?_|refine awpO_dreg_k fun K hK=>?_|(refine aopsO_nil ?_;refine hK _ _ _ ?_;try clear hK K)|(refine aopsDO_nil ?_;refine hK _ _ _ _ ?_ ?_;(focus kernel_rfl);try clear hK K)|(refine thnO_normal ?_;refine hK _ _ _ ?_;try clear hK K)|refine catchO_normal ?_|refine awpO_skip_k ?_|refine awpO_ret_k ?_|refine awpO_exit_k ?_|refine awpO_block_k ?_|(refine thnO_exit ?_;try clear hK K)|(refine thnO_ret ?_;try clear hK K)|refine catchO_ret ?_|refine catchO_exit ?_|(refine catchO_other ?_ ?_;focus decide))|((with_reducible first|apply aopsO_guard'|apply aopsDO_guard'|apply awpO_cond_g);focus (simp only [go_sem, g7];exact rfl))|(with_reducible first|refine gk_tt ?_|refine gk_ff ?_|refine ck_t ?_|refine ck_f ?_)|((with_reducible first|refine gk_tf ?_|refine gk_ft ?_|refine gk_u ?_|refine gk_u' ?_);first|(intro _ e;(first|rw [qqY] at e|rw [qqZ] at e);subst e)|(intro _ _ e e';(first|rw [qqY] at e|rw [qqZ] at e);subst e;subst e'))))
    refine aopsO_call fun C hC => ?_
    simp only [go_sem, g7]
    refine ACall.heap [0] h4 rfl (by decide) (by decide) (VM.eq (.row 0 seen.length false) _ _ (.pv _ _ _ _ (by exact vwA) .nil)) (hh_bd rfl) ?_
    simp only [V.ren, rho0, outD, outB, Option.map_some, Option.map_none, renL_bd]
    ((with_reducible refine finO hC ?_); clear hC C)
    (repeat' (first|((with_reducible refine aopsO_cons' fun C hC=>?_);simp only [go_sem, g7];((with_reducible refine finO hC ?_);clear hC C))|((with_reducible refine aopsO_ob' fun C hC=>?_);simp only [go_sem, g7];((with_reducible refine finOb hC ?_);clear hC C))|((with_reducible refine aopsDO_cons' fun C hC=>?_);simp only [go_sem, g7];((with_reducible refine finDO hC ?_);clear hC C))|((with_reducible refine aopsDO_ob' ?_ fun C hC=>?_);(focus rfl);simp only [go_sem, g7];((with_reducible refine finDOb hC ?_);clear hC C))|(with_reducible first|refine awpO_seq_k fun K hK=>?_|refine awpO_reg_k fun K hK=>?_|refine awpO_dreg_k fun K hK=>?_|(refine aopsO_nil ?_;refine hK _ _ _ ?_;try clear hK K)|(refine aopsDO_nil ?_;refine hK _ _ _ _ ?_ ?_;(focus kernel_rfl);try clear hK K)|(refine thnO_normal ?_;refine hK _ _ _ ?_;try clear hK K)|refine catchO_normal ?_|refine awpO_skip_k ?_|refine awpO_ret_k ?_|refine awpO_exit_k ?_|refine awpO_block_k ?_|(refine thnO_exit ?_;try clear hK K)|(refine thnO_ret ?_;try clear hK K)|refine catchO_ret ?_|refine catchO_exit ?_|(refine catchO_other ?_ ?_;focus decide))|((with_reducible first|apply aopsO_guard'|apply aopsDO_guard'|apply awpO_cond_g);focus (simp only [go_sem, g7];exact rfl))|(with_reducible first|refine gk_tt ?_|refine gk_ff ?_|refine ck_t ?_|refine ck_f ?_)|((with_reducible first|refine gk_tf ?_|refine gk_ft ?_|refine gk_u ?_|refine gk_u' ?_);first|(intro _ e;(first|rw [qqY] at e|rw [qqZ] at e);subst e)|(intro _ _ e e';(first|rw [qqY] at e|rw [qqZ] at e);subst e;subst e'))))
    exact retPO_ret (ps := [.list 4 (encB bs), bb true]) [0] rfl (.cons _ _ _ _ (row_bd (xs := bs) (by simp) rfl e1) (.cons _ _ _ _ (.pv _) .nil)) (ole_N _) ⟨rfl, rfl⟩
end Go.Proofs.Ytiediojibljpiaa
