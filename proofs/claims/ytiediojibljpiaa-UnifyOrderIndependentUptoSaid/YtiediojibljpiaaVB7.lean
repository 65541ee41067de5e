/- B7: joined from ZU7. -/
import Derived.Test.YtiediojibljpiaaVFnU
import Derived.Test.YtiediojibljpiaaVB6
/- unify.Unify: the loop over the bindings. -/
set_option maxRecDepth 10000
set_option linter.unusedSimpArgs false
set_option linter.unusedVariables false
namespace Go.Proofs.Ytiediojibljpiaa
open Go Go.Ab
def Bd.tc (b : Bd) : List V := [.pv (ii b.v), .pv (ii b.t.kd), .pv (ii b.t.id), .pv (.list 3 (encL b.t.args))]
abbrev rowB (bs : List Bd) : Blk := ⟨false, 42, 4, bs.map Bd.tc, none⟩
theorem VwE_bd {h : HF} {B : List Nat} : ∀ (xs : List Bd), VwE h B 4 (xs.map Bd.tc) (encB xs)
  | [] => .nil _
  | x :: xs => .cons _ _ _ _ _ rfl (.cons _ _ _ _ (.pv _) (.cons _ _ _ _ (.pv _) (.cons _ _ _ _ (.pv _) (.cons _ _ _ _ (.pv _) .nil)))) (VwE_bd xs)
theorem row_bd {h : HF} {B : List Nat} {b : Nat} {fl ro : Bool} {ty : Nat} {xs : List Bd} {tg : Option (Nat × Nat × Nat)} {n : Nat} (hb : b ∈ B) (hk : h b = some ⟨ro, ty, 4, xs.map Bd.tc, tg⟩) (hn : n = xs.length) : Vw h B (.row b n fl) (.list 4 (encB xs)) := by
  subst hn
  exact row_view hb hk (by simp) (VwE_bd xs)
theorem renL_bd {ρ : Nat → Nat} (xs : List Bd) : (xs.map Bd.tc).map (V.renL ρ) = xs.map Bd.tc := by
  rw [List.map_map]; exact List.map_congr_left fun p _ => rfl
theorem renL_bd1 {ρ : Nat → Nat} (b : Bd) : V.renL ρ b.tc = b.tc := rfl
theorem bdL_bd1 {S : Nat → Prop} (b : Bd) : V.bdL S b.tc = True := by simp [Bd.tc, V.bdL, V.bd]
theorem allL_bd {S : Nat → Prop} (xs : List Bd) : allL S (xs.map Bd.tc) = True := by
  simp only [allL_iff, eq_iff_iff, iff_true]
  intro cs hcs
  obtain ⟨p, _, rfl⟩ := List.mem_map.1 hcs
  simp [Bd.tc, V.bdL, V.bd]
theorem bd_len (b : Bd) : b.tc.length = 4 := rfl
theorem encM_at {L : SB} {i : Nat} {kv : Int × PV} (h : (encM L)[i]? = some kv) : ∃ x, L[i]? = some x ∧ kv = (x.1, x.2.enc) := by
  unfold encM at h
  rw [List.getElem?_map] at h
  obtain ⟨x, h1, h2⟩ := Option.map_eq_some_iff.1 h
  exact ⟨x, h1, h2.symm⟩
theorem encM_len (L : SB) : (encM L).length = L.length := by simp [encM]
section
variable {P : Program} {fr : Fr} {H : Hp} {O : OS} {K : Fr → Hp → OS → Prop} {d : Nat} {os : List AOp}
theorem aopsO_mrange {x : Operand} {m : Nat} {L : List (Int × PV)} (hx : ev (Ab.get fr) x = .pv (.lit (.map (some m)))) (hm : O m = some (.mp L)) (h : ∀ k, O k = none → aopsO P os ((d, .pv (.lit (.pointer (some ⟨k, 0, none⟩)))) :: fr) H (oupd O k (.it m L.length [])) K) : aopsO P (⟨some d, .mrange x, none⟩ :: os) fr H O K := by
  refine .inr ?_
  simp only [OX, hx, hm]
  exact h
theorem aopsO_mnext {x : Operand} {k m n : Nat} {seen : List Nat} {L : List (Int × PV)} (hx : ev (Ab.get fr) x = .pv (.lit (.pointer (some ⟨k, 0, none⟩)))) (hk : O k = some (.it m n seen)) (hm : O m = some (.mp L)) (hn : n = L.length)
    (h1 : (∀ i, i < n → i ∈ seen) → aopsO P os ((d, .pv (.tup [.lit (.bool false)])) :: fr) H O K) (h2 : ∀ i kv, L[i]? = some kv → ¬ i ∈ seen → aopsO P os ((d, .pv (.tup [.lit (.bool true), .lit (.int .i64 kv.1), kv.2])) :: fr) H (oupd O k (.it m n (seen ++ [i]))) K) :
    aopsO P (⟨some d, .mnext x, none⟩ :: os) fr H O K := by
  refine .inr ?_
  simp only [OX, hx, hk, hm]
  exact ⟨hn, h1, h2⟩
theorem aopsO_mentry {x : Operand} {k m n i : Nat} {seen : List Nat} {L : List (Int × PV)} {kv : Int × PV} (hx : ev (Ab.get fr) x = .pv (.lit (.pointer (some ⟨k, 0, none⟩)))) (hk : O k = some (.it m n (seen ++ [i]))) (hm : O m = some (.mp L)) (hn : n = L.length) (hi : L[i]? = some kv)
    (h : aopsO P os ((d, .pv (.tup [.lit (.int .i64 kv.1), kv.2])) :: fr) H O K) : aopsO P (⟨some d, .mentry x, none⟩ :: os) fr H O K := by
  refine .inr ?_
  simp only [OX, hx, hk, hm]
  exact ⟨hn, seen, i, kv, rfl, hi, h⟩
end
/-- the state of the loop over the bindings -/
abbrev Ob (O : OS) (s m : Nat) (p : Int) (L : SB) (k : Nat) (seen : List Nat) : OS := oupd (St O s m p L) k (.it m L.length seen)
def bdOf (L : SB) (σ : Ty → Ty) (i : Nat) : Bd := match L[i]? with
  | some x => ⟨x.1, σ x.2⟩
  | none => ⟨0, .mk 0 0 []⟩
def bsOf (L : SB) (σ : Ty → Ty) (seen : List Nat) : List Bd := seen.map (bdOf L σ)
theorem bsOf_len (L : SB) (σ : Ty → Ty) (seen : List Nat) : (bsOf L σ seen).length = seen.length := by simp [bsOf]
theorem bsOf_app (L : SB) (σ : Ty → Ty) (seen : List Nat) (i : Nat) : bsOf L σ (seen ++ [i]) = bsOf L σ seen ++ [bdOf L σ i] := by simp [bsOf]
def allLim (L : SB) (σ : Ty → Ty) : Bool := L.all fun x => limT (σ x.2)
theorem allLim_at {L : SB} {σ : Ty → Ty} {i : Nat} {x : Int × Ty} (h : L[i]? = some x) (hl : limT (σ x.2) = false) : allLim L σ = false := by
  unfold allLim
  rw [List.all_eq_false]
  exact ⟨x, List.mem_of_getElem? h, by simp [hl]⟩
theorem nodup_le : ∀ {n : Nat} {l : List Nat}, l.Nodup → (∀ i ∈ l, i < n) → l.length ≤ n
  | 0, l, h, hl => by
    cases l with
    | nil => simp
    | cons a l => exact absurd (hl a (by simp)) (by omega)
  | n + 1, l, h, hl => by
    by_cases hm : n ∈ l
    · have h1 := nodup_le (n := n) (l := l.erase n) (h.erase n) fun i hi => by
        have h2 := (h.mem_erase_iff).1 hi
        have := hl i h2.2
        omega
      rw [List.length_erase_of_mem hm] at h1
      omega
    · have := nodup_le (n := n) (l := l) h fun i hi => by
        have := hl i hi
        have : i ≠ n := fun e => hm (e ▸ hi)
        omega
      omega
set_option maxHeartbeats 4000000 in
theorem b_rows {s m k : Nat} (hsm : s ≠ m) (n1 : k ≠ s) (n2 : k ≠ m) (O : OS) {p : Int} {L : SB} {σ : Ty → Ty} (hσ : Sg L σ) (hg : ∀ x ∈ L, good x.2) (hlen : L.length ≤ 1000000000) {bs : List Bd} {ok : Bool} (hans : allLim L σ = false → bs = [] ∧ ok = false) {K : Fr → Hp → OS → Prop}
    (hN : ∀ fr seen, seen ≠ [] → seen.Nodup → (∀ i ∈ seen, i < L.length) → (∀ i, i < L.length → i ∈ seen) → (∀ i ∈ seen, limT (σ (bdOf L id i).t) = true) → Ab.get fr 7 = .row 0 seen.length false → K fr [some (rowB (bsOf L σ seen))] (Ob O s m p L k seen)) :
    ∀ (c : Nat) (seen : List Nat), seen ≠ [] → seen.Nodup → (∀ i ∈ seen, i < L.length) → (∀ i ∈ seen, limT (σ (bdOf L id i).t) = true) → L.length = seen.length + c →
    loopNO (awpO Try.prog ac9_l1) (catchO 2 (thnO K (retPO [RV.tmp 2, RV.tmp 3] (OIs (ansV bs ok) ON)))) (c + 1)
      [(36, .pv (.lit (.pointer (some ⟨k, 0, none⟩)))), (7, .row 0 seen.length false), (4, .pv (pS s))] [some (rowB (bsOf L σ seen))] (Ob O s m p L k seen) := by
  have hk : ∀ seen, Ob O s m p L k seen k = some (.it m L.length seen) := fun seen => oupd_same _ _ _
  have hS : ∀ seen, SolO (Ob O s m p L k seen) s m p L := fun seen => ⟨by simp only [Ob]; rw [oupd_ne _ _ (Ne.symm n1)]; exact St_s O hsm p L, by simp only [Ob]; rw [oupd_ne _ _ (Ne.symm n2)]; exact St_m O s m p L⟩
  intro c
  induction c using Nat.strongRecOn with
  | _ c ih =>
    intro seen hne hnd hlt hlim hc
    refine loopNO_k fun K1 hK1 => ?_
    unfold ac9_l1
    refine awpO_seq_k fun K hK => ?_
    refine awpO_reg_k fun K hK => ?_
    refine aopsO_mnext rfl (hk seen) (hS seen).2 (encM_len L).symm (fun hall => ?_) fun i kv hi hns => ?_
    · (repeat' (first|((with_reducible refine aopsO_cons' fun C hC=>?_);simp only [go_sem];((with_reducible refine finO hC ?_);clear hC C))|((with_reducible refine aopsO_ob' fun C hC=>?_);simp only [go_sem];((with_reducible refine finOb hC ?_);clear hC C))|((with_reducible refine aopsDO_cons' fun C hC=>?_);simp only [go_sem];((with_reducible refine finDO hC ?_);clear hC C))|((with_reducible refine aopsDO_ob' ?_ fun C hC=>?_);(focus rfl);simp only [go_sem];((with_reducible refine finDOb hC ?_);clear hC C))|(with_reducible first|refine awpO_seq_k fun K hK=>?_|refine awpO_reg_k fun K hK=>?_|refine awpO_dreg_k fun K hK=>?_|(refine aopsO_nil ?_;refine hK _ _ _ ?_;try clear hK K)|(refine aopsDO_nil ?_;refine hK _ _ _ _ ?_ ?_;(focus kernel_rfl);try clear hK K)|(refine thnO_normal ?_;refine hK _ _ _ ?_;try clear hK K)|refine catchO_normal ?_|refine awpO_skip_k ?_|refine awpO_ret_k ?_|refine awpO_exit_k ?_|refine awpO_block_k ?_|(refine thnO_exit ?_;try clear hK K)|(refine thnO_ret ?_;try clear hK K)|refine catchO_ret ?_|refine catchO_exit ?_|(refine catchO_other ?_ ?_;focus decide))|((with_reducible first|apply aopsO_guard'|apply aopsDO_guard'|apply awpO_cond_g);focus (simp only [go_sem];exact rfl))|(with_reducible first|refine gk_tt ?_|refine gk_ff ?_|refine ck_t ?_|refine ck_f ?_)|((with_reducible first|refine gk_tf ?_|refine gk_ft ?_|refine gk_u ?_|refine gk_u' ?_);first|(intro _ e;(first|rw [qqY] at e|rw [qqZ] at e);subst e)|(intro _ _ e e';(first|rw [qqY] at e|rw [qqZ] at e);subst e;subst e'))))
      exact hN _ _ hne hnd hlt hall hlim rfl
    · obtain ⟨x, hx, rfl⟩ := encM_at hi
      rw [oupd_oupd]
      have hil : i < L.length := (List.getElem?_eq_some_iff.1 hx).1
      have hnd' : (seen ++ [i]).Nodup := by rw [List.nodup_append]; exact ⟨hnd, by simp, fun a ha b hb => by simp only [List.mem_singleton] at hb; rw [hb]; intro e; subst e; exact hns ha⟩
      have hlt' : ∀ j ∈ seen ++ [i], j < L.length := fun j hj => by rcases List.mem_append.1 hj with hj | hj; exact hlt j hj; simp only [List.mem_singleton] at hj; rw [hj]; exact hil
      have hcl : (seen ++ [i]).length ≤ L.length := nodup_le hnd' hlt'
      have hgx := hg x (List.mem_of_getElem? hx)
      have hk2 := hk (seen ++ [i])
      have hm2 : Ob O s m p L k (seen ++ [i]) m = some (.mp (encM L)) := (hS (seen ++ [i])).2
      have hn2 := (encM_len L).symm
      have hw := within_ok hσ (hS (seen ++ [i])) hgx
      have hr := res_ok hσ (hS (seen ++ [i])) hgx
      cases hl : limT (σ x.2) with
      | false =>
        obtain ⟨rfl, rfl⟩ := hans (allLim_at hx hl)
        rw [hl] at hw
        (repeat' (first|((with_reducible refine aopsO_mentry ?_ hk2 hm2 hn2 hi ?_);(focus rfl))|((with_reducible refine aopsO_call0 (hw) ?_ ?_ ?_);(focus (simp only [go_sem, cells_enc, pcells_enc, enc_eq, Ty.tc];done));(focus (simp only [go_sem, cells_enc, pcells_enc, enc_eq, Ty.tc];done));rintro _ _ _ ⟨rfl, e2⟩ e;(replace e2 := Eq.symm e2;subst e2);(first|rw [qqY] at e|rw [qqZ] at e);subst e)|((with_reducible refine aopsDO_call0 (hw) ?_ ?_ ?_);(focus (simp only [go_sem, cells_enc, pcells_enc, enc_eq, Ty.tc];done));(focus (simp only [go_sem, cells_enc, pcells_enc, enc_eq, Ty.tc];done));intro _ _ e e';(first|rw [qqY] at e|rw [qqZ] at e);subst e;subst e')|((with_reducible refine aopsO_callX (hw) ?_ ?_ ?_);(focus (simp only [go_sem, cells_enc, pcells_enc, enc_eq, Ty.tc];done));(focus (simp only [go_sem, cells_enc, pcells_enc, enc_eq, Ty.tc];done));rintro _ _ _ ⟨rfl, e2⟩ e;(replace e2 := Eq.symm e2;subst e2);(first|rw [qqY] at e|rw [qqZ] at e);subst e)|((with_reducible refine aopsO_cons' fun C hC=>?_);simp only [go_sem, cells_enc, pcells_enc, enc_eq, Ty.tc];((with_reducible refine finO hC ?_);clear hC C))|((with_reducible refine aopsO_ob' fun C hC=>?_);simp only [go_sem, cells_enc, pcells_enc, enc_eq, Ty.tc];((with_reducible refine finOb hC ?_);clear hC C))|((with_reducible refine aopsDO_cons' fun C hC=>?_);simp only [go_sem, cells_enc, pcells_enc, enc_eq, Ty.tc];((with_reducible refine finDO hC ?_);clear hC C))|((with_reducible refine aopsDO_ob' ?_ fun C hC=>?_);(focus rfl);simp only [go_sem, cells_enc, pcells_enc, enc_eq, Ty.tc];((with_reducible refine finDOb hC ?_);clear hC C))|(with_reducible first|refine awpO_seq_k fun K hK=>?_|refine awpO_reg_k fun K hK=>?_|refine awpO_dreg_k fun K hK=>?_|(refine aopsO_nil ?_;refine hK _ _ _ ?_;try clear hK K)|(refine aopsDO_nil ?_;refine hK _ _ _ _ ?_ ?_;(focus kernel_rfl);try clear hK K)|(refine thnO_normal ?_;refine hK _ _ _ ?_;try clear hK K)|refine catchO_normal ?_|refine awpO_skip_k ?_|refine awpO_ret_k ?_|refine awpO_exit_k ?_|refine awpO_block_k ?_|(refine thnO_exit ?_;try clear hK K)|(refine thnO_ret ?_;try clear hK K)|refine catchO_ret ?_|refine catchO_exit ?_|(refine catchO_other ?_ ?_;focus decide))|((with_reducible first|apply aopsO_guard'|apply aopsDO_guard'|apply awpO_cond_g);focus (simp only [go_sem, cells_enc, pcells_enc, enc_eq, Ty.tc];exact rfl))|(with_reducible first|refine gk_tt ?_|refine gk_ff ?_|refine ck_t ?_|refine ck_f ?_)|((with_reducible first|refine gk_tf ?_|refine gk_ft ?_|refine gk_u ?_|refine gk_u' ?_);first|(intro _ e;(first|rw [qqY] at e|rw [qqZ] at e);subst e)|(intro _ _ e e';(first|rw [qqY] at e|rw [qqZ] at e);subst e;subst e'))))
        refine retPO_ret (ps := [.list 4 (encB []), bb false]) (List.range 40) rfl ?_ (ole_N _) ⟨rfl, rfl⟩
        exact vwA
      | true =>
        rw [hl] at hw
        have hb : seen.length + 1 ≤ big := by simp only [List.length_append, List.length_singleton] at hcl; unfold big; omega
        (repeat' (first|((with_reducible refine aopsO_mentry ?_ hk2 hm2 hn2 hi ?_);(focus rfl))|((with_reducible refine aopsO_call0 (hw) ?_ ?_ ?_);(focus (simp only [go_sem, cells_enc, pcells_enc, enc_eq, Ty.tc, bd_len, List.length_map, bsOf_len, hb, rowB];done));(focus (simp only [go_sem, cells_enc, pcells_enc, enc_eq, Ty.tc, bd_len, List.length_map, bsOf_len, hb, rowB];done));rintro _ _ _ ⟨rfl, e2⟩ e;(replace e2 := Eq.symm e2;subst e2);(first|rw [qqY] at e|rw [qqZ] at e);subst e)|((with_reducible refine aopsDO_call0 (hw) ?_ ?_ ?_);(focus (simp only [go_sem, cells_enc, pcells_enc, enc_eq, Ty.tc, bd_len, List.length_map, bsOf_len, hb, rowB];done));(focus (simp only [go_sem, cells_enc, pcells_enc, enc_eq, Ty.tc, bd_len, List.length_map, bsOf_len, hb, rowB];done));intro _ _ e e';(first|rw [qqY] at e|rw [qqZ] at e);subst e;subst e')|((with_reducible refine aopsO_callX (hw) ?_ ?_ ?_);(focus (simp only [go_sem, cells_enc, pcells_enc, enc_eq, Ty.tc, bd_len, List.length_map, bsOf_len, hb, rowB];done));(focus (simp only [go_sem, cells_enc, pcells_enc, enc_eq, Ty.tc, bd_len, List.length_map, bsOf_len, hb, rowB];done));rintro _ _ _ ⟨rfl, e2⟩ e;(replace e2 := Eq.symm e2;subst e2);(first|rw [qqY] at e|rw [qqZ] at e);subst e)|((with_reducible refine aopsO_call0 (hr) ?_ ?_ ?_);(focus (simp only [go_sem, cells_enc, pcells_enc, enc_eq, Ty.tc, bd_len, List.length_map, bsOf_len, hb, rowB];done));(focus (simp only [go_sem, cells_enc, pcells_enc, enc_eq, Ty.tc, bd_len, List.length_map, bsOf_len, hb, rowB];done));rintro _ _ _ ⟨rfl, e2⟩ e;(replace e2 := Eq.symm e2;subst e2);(first|rw [qqY] at e|rw [qqZ] at e);subst e)|((with_reducible refine aopsDO_call0 (hr) ?_ ?_ ?_);(focus (simp only [go_sem, cells_enc, pcells_enc, enc_eq, Ty.tc, bd_len, List.length_map, bsOf_len, hb, rowB];done));(focus (simp only [go_sem, cells_enc, pcells_enc, enc_eq, Ty.tc, bd_len, List.length_map, bsOf_len, hb, rowB];done));intro _ _ e e';(first|rw [qqY] at e|rw [qqZ] at e);subst e;subst e')|((with_reducible refine aopsO_callX (hr) ?_ ?_ ?_);(focus (simp only [go_sem, cells_enc, pcells_enc, enc_eq, Ty.tc, bd_len, List.length_map, bsOf_len, hb, rowB];done));(focus (simp only [go_sem, cells_enc, pcells_enc, enc_eq, Ty.tc, bd_len, List.length_map, bsOf_len, hb, rowB];done));rintro _ _ _ ⟨rfl, e2⟩ e;(replace e2 := Eq.symm e2;subst e2);(first|rw [qqY] at e|rw [qqZ] at e);subst e)|((with_reducible refine aopsO_cons' fun C hC=>?_);simp only [go_sem, cells_enc, pcells_enc, enc_eq, Ty.tc, bd_len, List.length_map, bsOf_len, hb, rowB];((with_reducible refine finO hC ?_);clear hC C))|((with_reducible refine aopsO_ob' fun C hC=>?_);simp only [go_sem, cells_enc, pcells_enc, enc_eq, Ty.tc, bd_len, List.length_map, bsOf_len, hb, rowB];((with_reducible refine finOb hC ?_);clear hC C))|((with_reducible refine aopsDO_cons' fun C hC=>?_);simp only [go_sem, cells_enc, pcells_enc, enc_eq, Ty.tc, bd_len, List.length_map, bsOf_len, hb, rowB];((with_reducible refine finDO hC ?_);clear hC C))|((with_reducible refine aopsDO_ob' ?_ fun C hC=>?_);(focus rfl);simp only [go_sem, cells_enc, pcells_enc, enc_eq, Ty.tc, bd_len, List.length_map, bsOf_len, hb, rowB];((with_reducible refine finDOb hC ?_);clear hC C))|(with_reducible first|refine awpO_seq_k fun K hK=>?_|refine awpO_reg_k fun K hK=>?_|refine awpO_dreg_k fun K hK=>?_|(refine aopsO_nil ?_;refine hK _ _ _ ?_;try clear hK K)|(refine aopsDO_nil ?_;refine hK _ _ _ _ ?_ ?_;(focus kernel_rfl);try clear hK K)|(refine thnO_normal ?_;refine hK _ _ _ ?_;try clear hK K)|refine catchO_normal ?_|refine awpO_skip_k ?_|refine awpO_ret_k ?_|refine awpO_exit_k ?_|refine awpO_block_k ?_|(refine thnO_exit ?_;try clear hK K)|(refine thnO_ret ?_;try clear hK K)|refine catchO_ret ?_|refine catchO_exit ?_|(refine catchO_other ?_ ?_;focus decide))|((with_reducible first|apply aopsO_guard'|apply aopsDO_guard'|apply awpO_cond_g);focus (simp only [go_sem, cells_enc, pcells_enc, enc_eq, Ty.tc, bd_len, List.length_map, bsOf_len, hb, rowB];exact rfl))|(with_reducible first|refine gk_tt ?_|refine gk_ff ?_|refine ck_t ?_|refine ck_f ?_)|((with_reducible first|refine gk_tf ?_|refine gk_ft ?_|refine gk_u ?_|refine gk_u' ?_);first|(intro _ e;(first|rw [qqY] at e|rw [qqZ] at e);subst e)|(intro _ _ e e';(first|rw [qqY] at e|rw [qqZ] at e);subst e;subst e'))))
        have hbd : bdOf L σ i = ⟨x.1, σ x.2⟩ := by simp only [bdOf, hx]
        have hbi : bdOf L id i = ⟨x.1, x.2⟩ := by simp only [bdOf, hx, _root_.id]
        refine thnO_normal ?_
        obtain ⟨c', rfl⟩ : ∃ c', c = c' + 1 := by
          simp only [List.length_append, List.length_singleton] at hcl
          exact ⟨c - 1, by omega⟩
        refine hK1 _ _ _ _ _ _ _ (LeB [3] (by refine ⟨?_, ?_, ?_⟩ <;> simp only [leFr, leFb, leHp, V.ren, V.renL, V.bd, V.bdL, allL, lt, Go.Ab.get, hget, List.map_cons, List.map_nil, List.length_cons, List.length_nil, List.length_append, List.getElem?_cons_zero, List.getElem?_cons_succ, List.getElem?_nil, Option.join_some, Option.join_none, List.getD_cons_zero, List.getD_cons_succ, List.getD_nil, Nat.reduceAdd, Nat.reduceLT, Nat.reduceEqDiff, Nat.zero_add, reduceIte, if_true, if_false, and_true, true_and, renL_vcells, allL_vcells, renL_pv, leBlk_some, eq_self, true_or, or_true, reduceCtorEq, false_or, bsOf_app, hbd, Bd.tc, ii, List.map_append, List.length_append, renL_bd, allL_bd, allL_app, renL_bd1, bdL_bd1, allL])) (OLe.refl _) (ih c' (Nat.lt_succ_self _) (seen ++ [i]) (by simp) hnd' hlt' (fun j hj => ?_) (by simp; omega))
        rcases List.mem_append.1 hj with hj | hj
        · exact hlim j hj
        · simp only [List.mem_singleton] at hj
          rw [hj, hbi]; exact hl
set_option maxHeartbeats 4000000 in
theorem b_first {s m k : Nat} (hsm : s ≠ m) (n1 : k ≠ s) (n2 : k ≠ m) (O : OS) {p : Int} {L : SB} {σ : Ty → Ty} (hσ : Sg L σ) (hg : ∀ x ∈ L, good x.2) (hlen : L.length ≤ 1000000000) {bs : List Bd} {ok : Bool} (hans : allLim L σ = false → bs = [] ∧ ok = false) {K : Fr → Hp → OS → Prop}
    (hN0 : ∀ fr, L = [] → Ab.get fr 7 = .pv (.lit (.slice none 0 0)) → K fr [] (Ob O s m p L k []))
    (hN : ∀ fr seen, seen ≠ [] → seen.Nodup → (∀ i ∈ seen, i < L.length) → (∀ i, i < L.length → i ∈ seen) → (∀ i ∈ seen, limT (σ (bdOf L id i).t) = true) → Ab.get fr 7 = .row 0 seen.length false → K fr [some (rowB (bsOf L σ seen))] (Ob O s m p L k seen)) :
    loopNO (awpO Try.prog ac9_l1) (catchO 2 (thnO K (retPO [RV.tmp 2, RV.tmp 3] (OIs (ansV bs ok) ON)))) (L.length + 1)
      [(36, .pv (.lit (.pointer (some ⟨k, 0, none⟩)))), (7, .pv (.lit (.slice none 0 0))), (4, .pv (pS s))] [] (Ob O s m p L k []) := by
  have hk : ∀ seen, Ob O s m p L k seen k = some (.it m L.length seen) := fun seen => oupd_same _ _ _
  have hS : ∀ seen, SolO (Ob O s m p L k seen) s m p L := fun seen => ⟨by simp only [Ob]; rw [oupd_ne _ _ (Ne.symm n1)]; exact St_s O hsm p L, by simp only [Ob]; rw [oupd_ne _ _ (Ne.symm n2)]; exact St_m O s m p L⟩
  refine loopNO_k fun K1 hK1 => ?_
  unfold ac9_l1
  refine awpO_seq_k fun K hK => ?_
  refine awpO_reg_k fun K hK => ?_
  refine aopsO_mnext rfl (hk []) (hS []).2 (encM_len L).symm (fun hall => ?_) fun i kv hi hns => ?_
  · (repeat' (first|((with_reducible refine aopsO_cons' fun C hC=>?_);simp only [go_sem];((with_reducible refine finO hC ?_);clear hC C))|((with_reducible refine aopsO_ob' fun C hC=>?_);simp only [go_sem];((with_reducible refine finOb hC ?_);clear hC C))|((with_reducible refine aopsDO_cons' fun C hC=>?_);simp only [go_sem];((with_reducible refine finDO hC ?_);clear hC C))|((with_reducible refine aopsDO_ob' ?_ fun C hC=>?_);(focus rfl);simp only [go_sem];((with_reducible refine finDOb hC ?_);clear hC C))|(with_reducible first|refine awpO_seq_k fun K hK=>?_|refine awpO_reg_k fun K hK=>?_|refine awpO_dreg_k fun K hK=>?_|(refine aopsO_nil ?_;refine hK _ _ _ ?_;try clear hK K)|(refine aopsDO_nil ?_;refine hK _ _ _ _ ?_ ?_;(focus kernel_rfl);try clear hK K)|(refine thnO_normal ?_;refine hK _ _ _ ?_;try clear hK K)|refine catchO_normal ?_|refine awpO_skip_k ?_|refine awpO_ret_k ?_|refine awpO_exit_k ?_|refine awpO_block_k ?_|(refine thnO_exit ?_;try clear hK K)|(refine thnO_ret ?_;try clear hK K)|refine catchO_ret ?_|refine catchO_exit ?_|(refine catchO_other ?_ ?_;focus decide))|((with_reducible first|apply aopsO_guard'|apply aopsDO_guard'|apply awpO_cond_g);focus (simp only [go_sem];exact rfl))|(with_reducible first|refine gk_tt ?_|refine gk_ff ?_|refine ck_t ?_|refine ck_f ?_)|((with_reducible first|refine gk_tf ?_|refine gk_ft ?_|refine gk_u ?_|refine gk_u' ?_);first|(intro _ e;(first|rw [qqY] at e|rw [qqZ] at e);subst e)|(intro _ _ e e';(first|rw [qqY] at e|rw [qqZ] at e);subst e;subst e'))))
    refine hN0 _ ?_ rfl
    cases L with
    | nil => rfl
    | cons x L => exact absurd (hall 0 (by simp)) (by simp)
  · obtain ⟨x, hx, rfl⟩ := encM_at hi
    rw [oupd_oupd, List.nil_append]
    have hil : i < L.length := (List.getElem?_eq_some_iff.1 hx).1
    have hgx := hg x (List.mem_of_getElem? hx)
    have hk2 : Ob O s m p L k [i] k = some (.it m L.length ([] ++ [i])) := hk [i]
    have hm2 : Ob O s m p L k [i] m = some (.mp (encM L)) := (hS ([i])).2
    have hn2 := (encM_len L).symm
    have hw := within_ok hσ (hS ([i])) hgx
    have hr := res_ok hσ (hS ([i])) hgx
    cases hl : limT (σ x.2) with
    | false =>
      obtain ⟨rfl, rfl⟩ := hans (allLim_at hx hl)
      rw [hl] at hw
      (repeat' (first|((with_reducible refine aopsO_mentry ?_ hk2 hm2 hn2 hi ?_);(focus rfl))|((with_reducible refine aopsO_call0 (hw) ?_ ?_ ?_);(focus (simp only [go_sem, cells_enc, pcells_enc, enc_eq, Ty.tc];done));(focus (simp only [go_sem, cells_enc, pcells_enc, enc_eq, Ty.tc];done));rintro _ _ _ ⟨rfl, e2⟩ e;(replace e2 := Eq.symm e2;subst e2);(first|rw [qqY] at e|rw [qqZ] at e);subst e)|((with_reducible refine aopsDO_call0 (hw) ?_ ?_ ?_);(focus (simp only [go_sem, cells_enc, pcells_enc, enc_eq, Ty.tc];done));(focus (simp only [go_sem, cells_enc, pcells_enc, enc_eq, Ty.tc];done));intro _ _ e e';(first|rw [qqY] at e|rw [qqZ] at e);subst e;subst e')|((with_reducible refine aopsO_callX (hw) ?_ ?_ ?_);(focus (simp only [go_sem, cells_enc, pcells_enc, enc_eq, Ty.tc];done));(focus (simp only [go_sem, cells_enc, pcells_enc, enc_eq, Ty.tc];done));rintro _ _ _ ⟨rfl, e2⟩ e;(replace e2 := Eq.symm e2;subst e2);(first|rw [qqY] at e|rw [qqZ] at e);subst e)|((with_reducible refine aopsO_cons' fun C hC=>?_);simp only [go_sem, cells_enc, pcells_enc, enc_eq, Ty.tc];((with_reducible refine finO hC ?_);clear hC C))|((with_reducible refine aopsO_ob' fun C hC=>?_);simp only [go_sem, cells_enc, pcells_enc, enc_eq, Ty.tc];((with_reducible refine finOb hC ?_);clear hC C))|((with_reducible refine aopsDO_cons' fun C hC=>?_);simp only [go_sem, cells_enc, pcells_enc, enc_eq, Ty.tc];((with_reducible refine finDO hC ?_);clear hC C))|((with_reducible refine aopsDO_ob' ?_ fun C hC=>?_);(focus rfl);simp only [go_sem, cells_enc, pcells_enc, enc_eq, Ty.tc];((with_reducible refine finDOb hC ?_);clear hC C))|(with_reducible first|refine awpO_seq_k fun K hK=>?_|refine awpO_reg_k fun K hK=>?_|refine awpO_dreg_k fun K hK=>?_|(refine aopsO_nil ?_;refine hK _ _ _ ?_;try clear hK K)|(refine aopsDO_nil ?_;refine hK _ _ _ _ ?_ ?_;(focus kernel_rfl);try clear hK K)|(refine thnO_normal ?_;refine hK _ _ _ ?_;try clear hK K)|refine catchO_normal ?_|refine awpO_skip_k ?_|refine awpO_ret_k ?_|refine awpO_exit_k ?_|refine awpO_block_k ?_|(refine thnO_exit ?_;try clear hK K)|(refine thnO_ret ?_;try clear hK K)|refine catchO_ret ?_|refine catchO_exit ?_|(refine catchO_other ?_ ?_;focus decide))|((with_reducible first|apply aopsO_guard'|apply aopsDO_guard'|apply awpO_cond_g);focus (simp only [go_sem, cells_enc, pcells_enc, enc_eq, Ty.tc];exact rfl))|(with_reducible first|refine gk_tt ?_|refine gk_ff ?_|refine ck_t ?_|refine ck_f ?_)|((with_reducible first|refine gk_tf ?_|refine gk_ft ?_|refine gk_u ?_|refine gk_u' ?_);first|(intro _ e;(first|rw [qqY] at e|rw [qqZ] at e);subst e)|(intro _ _ e e';(first|rw [qqY] at e|rw [qqZ] at e);subst e;subst e'))))
      refine retPO_ret (ps := [.list 4 (encB []), bb false]) (List.range 40) rfl ?_ (ole_N _) ⟨rfl, rfl⟩
      exact vwA
    | true =>
      rw [hl] at hw
      (repeat' (first|((with_reducible refine aopsO_mentry ?_ hk2 hm2 hn2 hi ?_);(focus rfl))|((with_reducible refine aopsO_call0 (hw) ?_ ?_ ?_);(focus (simp only [go_sem, cells_enc, pcells_enc, enc_eq, Ty.tc, bd_len, List.length_map, bsOf_len, rowB];done));(focus (simp only [go_sem, cells_enc, pcells_enc, enc_eq, Ty.tc, bd_len, List.length_map, bsOf_len, rowB];done));rintro _ _ _ ⟨rfl, e2⟩ e;(replace e2 := Eq.symm e2;subst e2);(first|rw [qqY] at e|rw [qqZ] at e);subst e)|((with_reducible refine aopsDO_call0 (hw) ?_ ?_ ?_);(focus (simp only [go_sem, cells_enc, pcells_enc, enc_eq, Ty.tc, bd_len, List.length_map, bsOf_len, rowB];done));(focus (simp only [go_sem, cells_enc, pcells_enc, enc_eq, Ty.tc, bd_len, List.length_map, bsOf_len, rowB];done));intro _ _ e e';(first|rw [qqY] at e|rw [qqZ] at e);subst e;subst e')|((with_reducible refine aopsO_callX (hw) ?_ ?_ ?_);(focus (simp only [go_sem, cells_enc, pcells_enc, enc_eq, Ty.tc, bd_len, List.length_map, bsOf_len, rowB];done));(focus (simp only [go_sem, cells_enc, pcells_enc, enc_eq, Ty.tc, bd_len, List.length_map, bsOf_len, rowB];done));rintro _ _ _ ⟨rfl, e2⟩ e;(replace e2 := Eq.symm e2;subst e2);(first|rw [qqY] at e|rw [qqZ] at e);subst e)|((with_reducible refine aopsO_call0 (hr) ?_ ?_ ?_);(focus (simp only [go_sem, cells_enc, pcells_enc, enc_eq, Ty.tc, bd_len, List.length_map, bsOf_len, rowB];done));(focus (simp only [go_sem, cells_enc, pcells_enc, enc_eq, Ty.tc, bd_len, List.length_map, bsOf_len, rowB];done));rintro _ _ _ ⟨rfl, e2⟩ e;(replace e2 := Eq.symm e2;subst e2);(first|rw [qqY] at e|rw [qqZ] at e);subst e)|((with_reducible refine aopsDO_call0 (hr) ?_ ?_ ?_);(focus (simp only [go_sem, cells_enc, pcells_enc, enc_eq, Ty.tc, bd_len, List.length_map, bsOf_len, rowB];done));(focus (simp only [go_sem, cells_enc, pcells_enc, enc_eq, Ty.tc, bd_len, List.length_map, bsOf_len, rowB];done));intro _ _ e e';(first|rw [qqY] at e|rw [qqZ] at e);subst e;subst e')|((with_reducible refine aopsO_callX (hr) ?_ ?_ ?_);(focus (simp only [go_sem, cells_enc, pcells_enc, enc_eq, Ty.tc, bd_len, List.length_map, bsOf_len, rowB];done));(focus (simp only [go_sem, cells_enc, pcells_enc, enc_eq, Ty.tc, bd_len, List.length_map, bsOf_len, rowB];done));rintro _ _ _ ⟨rfl, e2⟩ e;(replace e2 := Eq.symm e2;subst e2);(first|rw [qqY] at e|rw [qqZ] at e);subst e)|((with_reducible refine aopsO_cons' fun C hC=>?_);simp only [go_sem, cells_enc, pcells_enc, enc_eq, Ty.tc, bd_len, List.length_map, bsOf_len, rowB];((with_reducible refine finO hC ?_);clear hC C))|((with_reducible refine aopsO_ob' fun C hC=>?_);simp only [go_sem, cells_enc, pcells_enc, enc_eq, Ty.tc, bd_len, List.length_map, bsOf_len, rowB];((with_reducible refine finOb hC ?_);clear hC C))|((with_reducible refine aopsDO_cons' fun C hC=>?_);simp only [go_sem, cells_enc, pcells_enc, enc_eq, Ty.tc, bd_len, List.length_map, bsOf_len, rowB];((with_reducible refine finDO hC ?_);clear hC C))|((with_reducible refine aopsDO_ob' ?_ fun C hC=>?_);(focus rfl);simp only [go_sem, cells_enc, pcells_enc, enc_eq, Ty.tc, bd_len, List.length_map, bsOf_len, rowB];((with_reducible refine finDOb hC ?_);clear hC C))|(with_reducible first|refine awpO_seq_k fun K hK=>?_|refine awpO_reg_k fun K hK=>?_|refine awpO_dreg_k fun K hK=>?_|(refine aopsO_nil ?_;refine hK _ _ _ ?_;try clear hK K)|(refine aopsDO_nil ?_;refine hK _ _ _ _ ?_ ?_;(focus kernel_rfl);try clear hK K)|(refine thnO_normal ?_;refine hK _ _ _ ?_;try clear hK K)|refine catchO_normal ?_|refine awpO_skip_k ?_|refine awpO_ret_k ?_|refine awpO_exit_k ?_|refine awpO_block_k ?_|(refine thnO_exit ?_;try clear hK K)|(refine thnO_ret ?_;try clear hK K)|refine catchO_ret ?_|refine catchO_exit ?_|(refine catchO_other ?_ ?_;focus decide))|((with_reducible first|apply aopsO_guard'|apply aopsDO_guard'|apply awpO_cond_g);focus (simp only [go_sem, cells_enc, pcells_enc, enc_eq, Ty.tc, bd_len, List.length_map, bsOf_len, rowB];exact rfl))|(with_reducible first|refine gk_tt ?_|refine gk_ff ?_|refine ck_t ?_|refine ck_f ?_)|((with_reducible first|refine gk_tf ?_|refine gk_ft ?_|refine gk_u ?_|refine gk_u' ?_);first|(intro _ e;(first|rw [qqY] at e|rw [qqZ] at e);subst e)|(intro _ _ e e';(first|rw [qqY] at e|rw [qqZ] at e);subst e;subst e'))))
      have hbd : bdOf L σ i = ⟨x.1, σ x.2⟩ := by simp only [bdOf, hx]
      have hbi : bdOf L id i = ⟨x.1, x.2⟩ := by simp only [bdOf, hx, _root_.id]
      refine thnO_normal ?_
      obtain ⟨c', hc'⟩ : ∃ c', L.length = c' + 1 := ⟨L.length - 1, by omega⟩
      rw [hc'] at hK1
      have hbs : bsOf L σ [i] = [⟨x.1, σ x.2⟩] := by simp only [bsOf, List.map_cons, List.map_nil, hbd]
      refine hK1 _ _ _ _ _ _ _ (LeB [2] (by refine ⟨?_, ?_, ?_⟩ <;> simp only [leFr, leFb, leHp, V.ren, V.renL, V.bd, V.bdL, allL, lt, Go.Ab.get, hget, List.map_cons, List.map_nil, List.length_cons, List.length_nil, List.length_append, List.getElem?_cons_zero, List.getElem?_cons_succ, List.getElem?_nil, Option.join_some, Option.join_none, List.getD_cons_zero, List.getD_cons_succ, List.getD_nil, Nat.reduceAdd, Nat.reduceLT, Nat.reduceEqDiff, Nat.zero_add, reduceIte, if_true, if_false, and_true, true_and, renL_vcells, allL_vcells, renL_pv, leBlk_some, eq_self, true_or, or_true, reduceCtorEq, false_or, hbs, Bd.tc, ii, List.length_singleton, allL])) (OLe.refl _) (b_rows hsm n1 n2 O hσ hg hlen hans hN c' [i] (by simp) (by simp) (by simpa using hil) (by simp only [List.mem_singleton]; intro j hj; rw [hj, hbi]; exact hl) (by rw [hc']; simp; omega))
end Go.Proofs.Ytiediojibljpiaa
