/- B2: joined from G9. -/
import Derived.Test.YtgphapkpoamcgaaFnG
import Derived.Test.YtgphapkpoamcgaaB1
/- Arenas: insert, by contract. -/
set_option maxRecDepth 10000
set_option linter.unusedSimpArgs false
set_option linter.unusedVariables false
namespace Go.Proofs.Ytgphapkpoamcgaa
open Go Go.Ab
theorem vwW {p : Prop} (h : p := by (repeat (first | exact Vw_enc _ | exact .nil | exact .pv _ | exact Vw_nil | exact Vw_some | (refine .cons _ _ _ _ ?_ ?_) | (refine Vw.ptr _ _ _ _ _ _ ?_ rfl rfl ?_; (focus (decide))) | (refine .fn _ _ _ ?_) | (refine .agg _ _ ?_) | (refine row_ii ?_ rfl; (focus (decide))) | (refine row_G ?_ rfl (by simp); (focus (decide))))); first | done | fail) : p := h
def tl101 : AC := match ac101 with
  | .seq _ (.seq _ (.seq _ c)) => c
  | c => c
/-- what stands where insert returns -/
def EndR (R : List GN × Int) (t0 : Option (Nat × Nat × Nat)) (Q : Post) : Prop := ∀ (fr : Fr) (H : Hp) (b : Nat) (tg : Option (Nat × Nat × Nat)), Ab.get fr 4 = .pv (ii R.2) → hget H 0 = some ⟨false, 75, 1, [[.row b R.1.length false]], t0⟩ → hget H b = some ⟨false, 122, 4, R.1.map GN.tc, tg⟩ → b ≠ 0 → Q .ret fr H
theorem idxF_nat {α : Type} {p : α → Bool} {ts : List α} (h : decide (idxF p ts 0 ≥ 0) = true) : 0 ≤ idxF p ts 0 := of_decide_eq_true h
set_option maxHeartbeats 1000000 in
theorem tailA (ns : List GN) (k w : Int) (x : ByteArray) (is : List Int) {Q : Post} {fr : Fr} {t0 t1 : Option (Nat × Nat × Nat)} (h0 : Ab.get fr 0 = .ptr 0 0 0) (h5 : Ab.get fr 5 = .ptr 2 0 0) (hl : ns.length + 1 ≤ 2000000)
    (hret : EndR (finI ns ⟨k, w, x, is⟩) t0 Q) : awp Try.prog tl101 Q fr [some ⟨false, 75, 1, [[.row 1 (ns).length false]], t0⟩, some ⟨false, 122, 4, (ns).map GN.tc, t1⟩, some ⟨false, 122, 4, [[.pv (ii k), .pv (ii w), .pv (ss x), .row 3 (is).length false]], none⟩, some ⟨false, 3, 1, (is).map cI, none⟩] := by
  have hf := idxG_ok 122 [.rptr [ii k, ii w, ss x, .list 1 (encI is)]] (fun m => eqG m ⟨k, w, x, is⟩) ns (fun m _ => ins1_ok m ⟨k, w, x, is⟩)
  unfold finI at hret
  have hub : ns.length + 1 ≤ big := by unfold big; omega
  have hsub : IntKind.i64.wrap (((ns.length + 1 : Nat) : Int) - 1) = ns.length := by
    rw [show ((ns.length + 1 : Nat) : Int) - 1 = ns.length by omega]
    exact IntWalk.i64_in _ (by omega)
  have hmap : ns.map GN.tc ++ [[.pv (ii k), .pv (ii w), .pv (ss x), .pv (.list 1 (encI is))]] = (ns ++ [(⟨k, w, x, is⟩ : GN)]).map GN.tc := by simp [GN.tc]
  have hlen : ns.length + 1 = (ns ++ [(⟨k, w, x, is⟩ : GN)]).length := by simp
  have hld : ∀ (d : Option Nat) (os : List AOp) (K : List Foot → Fr → Hp → Prop) (fr : Fr) (base i : Nat) (lk : List Nat) (lks : List (List Nat)) (tr : List Foot), (∀ fr' tr', put d (.pv (GN.mk k w x is).enc) fr = fr' → tr ++ [⟨lk, d, [2, 3], [3]⟩] = tr' → aopsD Try.prog base (i + 1) os lks fr' [some ⟨false, 75, 1, [[.row 1 (ns).length false]], t0⟩, some ⟨false, 122, 4, (ns).map GN.tc, t1⟩, some ⟨false, 122, 4, [[.pv (ii k), .pv (ii w), .pv (ss x), .row 3 (is).length false]], none⟩, some ⟨true, 3, 1, (is).map cI, none⟩] tr' K) → Ab.get fr 5 = .ptr 2 0 0 → aopsD Try.prog base i (⟨d, .load true 4 (.tmp 5), none⟩ :: os) (lk :: lks) fr [some ⟨false, 75, 1, [[.row 1 (ns).length false]], t0⟩, some ⟨false, 122, 4, (ns).map GN.tc, t1⟩, some ⟨false, 122, 4, [[.pv (ii k), .pv (ii w), .pv (ss x), .row 3 (is).length false]], none⟩, some ⟨false, 3, 1, (is).map cI, none⟩] tr K := by
    intro d os K fr base i lk lks tr h h5
    refine aopsD_frz rfl [3] (GN.mk k w x is).enc fun C hC => ?_
    simp only [go_sem, h5]
    refine hC _ _ _ _ _ _ ?_ rfl rfl rfl (h _ _ rfl rfl)
    rw [GN.enc]
    exact .agg _ _ (.cons _ _ _ _ (.pv _) (.cons _ _ _ _ (.pv _) (.cons _ _ _ _ (.pv _) (.cons _ _ _ _ (row_ii (by decide) rfl) .nil))))
  unfold tl101 ac101
  cases h1 : decide (idxF (fun m => eqG m ⟨k, w, x, is⟩) ns 0 ≥ 0) with
  | true =>
    rw [h1, if_pos rfl] at hret
    (repeat' (first | ((first | (with_reducible refine aops_call fun C hC => ?_) | (with_reducible refine aopsD_call fun C hC => ?_) | ((with_reducible intro C hC); (with_reducible refine ax_call_mp ?_))); (first | (simp only [go_sem, h0, h5, h1]; (first | ((with_reducible apply ACall.pure0 [1, 2, 3] (hf)); (focus ((first | exact vwA | exact vwW))))))); (simp only [PV.scal, PV.scalL, if_true, Bool.and_true, Bool.and_false, Bool.false_and, Bool.true_and, frz, List.map_nil, Bool.false_eq_true, if_false, ite_self, go_sem, h0, h5, h1]); ((with_reducible first | refine finA hC ?_ | refine finD hC ?_); clear hC C)) | ((with_reducible first | refine aops_cons' fun C hC => ?_ | refine aopsD_cons' fun C hC => ?_ | intro C hC); simp only [go_sem, h0, h5, h1]; ((with_reducible first | refine finA hC ?_ | refine finD hC ?_); clear hC C)) | (with_reducible first | refine awp_seq_k fun K hK => ?_ | refine awp_reg_k fun K hK => ?_ | refine awp_dreg_k fun K hK => ?_ | (refine aops_nil ?_; refine hK _ _ ?_; try clear hK K) | (refine aopsD_nil ?_; refine hK _ _ _ ?_ ?_; (focus kernel_rfl); try clear hK K) | (refine thn_normal ?_; refine hK _ _ ?_; try clear hK K) | refine catch_normal ?_ | refine awp_skip_k ?_ | refine awp_ret_k ?_ | refine awp_exit_k ?_ | refine awp_block_k ?_ | (refine thn_exit ?_; try clear hK K) | (refine thn_ret ?_; try clear hK K) | refine catch_ret ?_ | refine catch_exit ?_ | (refine catch_other ?_ ?_; focus decide)) | ((with_reducible first | apply aops_guard' | apply aopsD_guard' | apply awp_cond_g); focus (simp only [go_sem, h0, h5, h1]; exact rfl)) | (with_reducible first | refine gk_tt ?_ | refine gk_ff ?_ | refine ck_t ?_ | refine ck_f ?_) | ((with_reducible first | refine gk_tf ?_ | refine gk_ft ?_ | refine gk_u ?_ | refine gk_u' ?_); first | (intro _ e; (first | rw [put_some] at e | rw [put_none] at e); subst e) | (intro _ _ e e'; (first | rw [put_some] at e | rw [put_none] at e); subst e; subst e'))))
    exact hret _ _ 1 _ rfl rfl rfl (by decide)
  | false =>
    rw [h1, if_neg (by simp)] at hret
    (repeat' (first | ((with_reducible refine hld _ _ _ _ _ _ _ _ _ (fun _ _ e e' => ?_) (by simp only [go_sem, h5])); (first | rw [put_some] at e | rw [put_none] at e); subst e; subst e') | ((first | (with_reducible refine aops_call fun C hC => ?_) | (with_reducible refine aopsD_call fun C hC => ?_) | ((with_reducible intro C hC); (with_reducible refine ax_call_mp ?_))); (first | (simp only [go_sem, h0, h5, h1, hub, hsub, cells_gn, GN.tc, List.length_map]; (first | ((with_reducible apply ACall.pure0 [1, 2, 3] (hf)); (focus ((first | exact vwA | exact vwW))))))); (simp only [PV.scal, PV.scalL, if_true, Bool.and_true, Bool.and_false, Bool.false_and, Bool.true_and, frz, List.map_nil, Bool.false_eq_true, if_false, ite_self, go_sem, h0, h5, h1, hub, hsub, cells_gn, GN.tc, List.length_map]); ((with_reducible first | refine finA hC ?_ | refine finD hC ?_); clear hC C)) | ((with_reducible first | refine aops_cons' fun C hC => ?_ | refine aopsD_cons' fun C hC => ?_ | intro C hC); simp only [go_sem, h0, h5, h1, hub, hsub, cells_gn, GN.tc, List.length_map]; ((with_reducible first | refine finA hC ?_ | refine finD hC ?_); clear hC C)) | (with_reducible first | refine awp_seq_k fun K hK => ?_ | refine awp_reg_k fun K hK => ?_ | refine awp_dreg_k fun K hK => ?_ | (refine aops_nil ?_; refine hK _ _ ?_; try clear hK K) | (refine aopsD_nil ?_; refine hK _ _ _ ?_ ?_; (focus kernel_rfl); try clear hK K) | (refine thn_normal ?_; refine hK _ _ ?_; try clear hK K) | refine catch_normal ?_ | refine awp_skip_k ?_ | refine awp_ret_k ?_ | refine awp_exit_k ?_ | refine awp_block_k ?_ | (refine thn_exit ?_; try clear hK K) | (refine thn_ret ?_; try clear hK K) | refine catch_ret ?_ | refine catch_exit ?_ | (refine catch_other ?_ ?_; focus decide)) | ((with_reducible first | apply aops_guard' | apply aopsD_guard' | apply awp_cond_g); focus (simp only [go_sem, h0, h5, h1, hub, hsub, cells_gn, GN.tc, List.length_map]; exact rfl)) | (with_reducible first | refine gk_tt ?_ | refine gk_ff ?_ | refine ck_t ?_ | refine ck_f ?_) | ((with_reducible first | refine gk_tf ?_ | refine gk_ft ?_ | refine gk_u ?_ | refine gk_u' ?_); first | (intro _ e; (first | rw [put_some] at e | rw [put_none] at e); subst e) | (intro _ _ e e'; (first | rw [put_some] at e | rw [put_none] at e); subst e; subst e'))))
    rw [hmap, hlen]
    exact hret _ _ 11 _ rfl rfl rfl (by decide)
set_option maxHeartbeats 1000000 in
theorem tailB (ns : List GN) (k w : Int) (x : ByteArray) {Q : Post} {fr : Fr} {t0 t1 : Option (Nat × Nat × Nat)} (h0 : Ab.get fr 0 = .ptr 0 0 0) (h5 : Ab.get fr 5 = .ptr 2 0 0) (hl : ns.length + 1 ≤ 2000000)
    (hret : EndR (finI ns ⟨k, w, x, []⟩) t0 Q) : awp Try.prog tl101 Q fr [some ⟨false, 75, 1, [[.row 1 (ns).length false]], t0⟩, some ⟨false, 122, 4, (ns).map GN.tc, t1⟩, some ⟨false, 122, 4, [[.pv (ii k), .pv (ii w), .pv (ss x), .pv (.lit (.slice none 0 0))]], none⟩] := by
  have hf := idxG_ok 122 [.rptr [ii k, ii w, ss x, .list 1 (encI [])]] (fun m => eqG m ⟨k, w, x, []⟩) ns (fun m _ => ins1_ok m ⟨k, w, x, []⟩)
  unfold finI at hret
  have hub : ns.length + 1 ≤ big := by unfold big; omega
  have hsub : IntKind.i64.wrap (((ns.length + 1 : Nat) : Int) - 1) = ns.length := by
    rw [show ((ns.length + 1 : Nat) : Int) - 1 = ns.length by omega]
    exact IntWalk.i64_in _ (by omega)
  have hmap : ns.map GN.tc ++ [[.pv (ii k), .pv (ii w), .pv (ss x), .pv (.list 1 (encI []))]] = (ns ++ [(⟨k, w, x, []⟩ : GN)]).map GN.tc := by simp [GN.tc]
  have hlen : ns.length + 1 = (ns ++ [(⟨k, w, x, []⟩ : GN)]).length := by simp
  have hld : ∀ (d : Option Nat) (os : List AOp) (K : List Foot → Fr → Hp → Prop) (fr : Fr) (base i : Nat) (lk : List Nat) (lks : List (List Nat)) (tr : List Foot), (∀ fr' tr', put d (.pv (GN.mk k w x []).enc) fr = fr' → tr ++ [⟨lk, d, [2], []⟩] = tr' → aopsD Try.prog base (i + 1) os lks fr' [some ⟨false, 75, 1, [[.row 1 (ns).length false]], t0⟩, some ⟨false, 122, 4, (ns).map GN.tc, t1⟩, some ⟨false, 122, 4, [[.pv (ii k), .pv (ii w), .pv (ss x), .pv (.lit (.slice none 0 0))]], none⟩] tr' K) → Ab.get fr 5 = .ptr 2 0 0 → aopsD Try.prog base i (⟨d, .load true 4 (.tmp 5), none⟩ :: os) (lk :: lks) fr [some ⟨false, 75, 1, [[.row 1 (ns).length false]], t0⟩, some ⟨false, 122, 4, (ns).map GN.tc, t1⟩, some ⟨false, 122, 4, [[.pv (ii k), .pv (ii w), .pv (ss x), .pv (.lit (.slice none 0 0))]], none⟩] tr K := by
    intro d os K fr base i lk lks tr h h5
    refine aopsD_frz rfl [] (GN.mk k w x []).enc fun C hC => ?_
    simp only [go_sem, h5]
    refine hC _ _ _ _ _ _ ?_ rfl rfl rfl (h _ _ rfl rfl)
    rw [GN.enc]
    exact .agg _ _ (.cons _ _ _ _ (.pv _) (.cons _ _ _ _ (.pv _) (.cons _ _ _ _ (.pv _) (.cons _ _ _ _ (Vw_nil) .nil))))
  unfold tl101 ac101
  cases h1 : decide (idxF (fun m => eqG m ⟨k, w, x, []⟩) ns 0 ≥ 0) with
  | true =>
    rw [h1, if_pos rfl] at hret
    (repeat' (first | ((first | (with_reducible refine aops_call fun C hC => ?_) | (with_reducible refine aopsD_call fun C hC => ?_) | ((with_reducible intro C hC); (with_reducible refine ax_call_mp ?_))); (first | (simp only [go_sem, h0, h5, h1]; (first | ((with_reducible apply ACall.pure0 [1, 2] (hf)); (focus ((first | exact vwA | exact vwW))))))); (simp only [PV.scal, PV.scalL, if_true, Bool.and_true, Bool.and_false, Bool.false_and, Bool.true_and, frz, List.map_nil, Bool.false_eq_true, if_false, ite_self, go_sem, h0, h5, h1]); ((with_reducible first | refine finA hC ?_ | refine finD hC ?_); clear hC C)) | ((with_reducible first | refine aops_cons' fun C hC => ?_ | refine aopsD_cons' fun C hC => ?_ | intro C hC); simp only [go_sem, h0, h5, h1]; ((with_reducible first | refine finA hC ?_ | refine finD hC ?_); clear hC C)) | (with_reducible first | refine awp_seq_k fun K hK => ?_ | refine awp_reg_k fun K hK => ?_ | refine awp_dreg_k fun K hK => ?_ | (refine aops_nil ?_; refine hK _ _ ?_; try clear hK K) | (refine aopsD_nil ?_; refine hK _ _ _ ?_ ?_; (focus kernel_rfl); try clear hK K) | (refine thn_normal ?_; refine hK _ _ ?_; try clear hK K) | refine catch_normal ?_ | refine awp_skip_k ?_ | refine awp_ret_k ?_ | refine awp_exit_k ?_ | refine awp_block_k ?_ | (refine thn_exit ?_; try clear hK K) | (refine thn_ret ?_; try clear hK K) | refine catch_ret ?_ | refine catch_exit ?_ | (refine catch_other ?_ ?_; focus decide)) | ((with_reducible first | apply aops_guard' | apply aopsD_guard' | apply awp_cond_g); focus (simp only [go_sem, h0, h5, h1]; exact rfl)) | (with_reducible first | refine gk_tt ?_ | refine gk_ff ?_ | refine ck_t ?_ | refine ck_f ?_) | ((with_reducible first | refine gk_tf ?_ | refine gk_ft ?_ | refine gk_u ?_ | refine gk_u' ?_); first | (intro _ e; (first | rw [put_some] at e | rw [put_none] at e); subst e) | (intro _ _ e e'; (first | rw [put_some] at e | rw [put_none] at e); subst e; subst e'))))
    exact hret _ _ 1 _ rfl rfl rfl (by decide)
  | false =>
    rw [h1, if_neg (by simp)] at hret
    (repeat' (first | ((with_reducible refine hld _ _ _ _ _ _ _ _ _ (fun _ _ e e' => ?_) (by simp only [go_sem, h5])); (first | rw [put_some] at e | rw [put_none] at e); subst e; subst e') | ((first | (with_reducible refine aops_call fun C hC => ?_) | (with_reducible refine aopsD_call fun C hC => ?_) | ((with_reducible intro C hC); (with_reducible refine ax_call_mp ?_))); (first | (simp only [go_sem, h0, h5, h1, hub, hsub, cells_gn, GN.tc, List.length_map]; (first | ((with_reducible apply ACall.pure0 [1, 2] (hf)); (focus ((first | exact vwA | exact vwW))))))); (simp only [PV.scal, PV.scalL, if_true, Bool.and_true, Bool.and_false, Bool.false_and, Bool.true_and, frz, List.map_nil, Bool.false_eq_true, if_false, ite_self, go_sem, h0, h5, h1, hub, hsub, cells_gn, GN.tc, List.length_map]); ((with_reducible first | refine finA hC ?_ | refine finD hC ?_); clear hC C)) | ((with_reducible first | refine aops_cons' fun C hC => ?_ | refine aopsD_cons' fun C hC => ?_ | intro C hC); simp only [go_sem, h0, h5, h1, hub, hsub, cells_gn, GN.tc, List.length_map]; ((with_reducible first | refine finA hC ?_ | refine finD hC ?_); clear hC C)) | (with_reducible first | refine awp_seq_k fun K hK => ?_ | refine awp_reg_k fun K hK => ?_ | refine awp_dreg_k fun K hK => ?_ | (refine aops_nil ?_; refine hK _ _ ?_; try clear hK K) | (refine aopsD_nil ?_; refine hK _ _ _ ?_ ?_; (focus kernel_rfl); try clear hK K) | (refine thn_normal ?_; refine hK _ _ ?_; try clear hK K) | refine catch_normal ?_ | refine awp_skip_k ?_ | refine awp_ret_k ?_ | refine awp_exit_k ?_ | refine awp_block_k ?_ | (refine thn_exit ?_; try clear hK K) | (refine thn_ret ?_; try clear hK K) | refine catch_ret ?_ | refine catch_exit ?_ | (refine catch_other ?_ ?_; focus decide)) | ((with_reducible first | apply aops_guard' | apply aopsD_guard' | apply awp_cond_g); focus (simp only [go_sem, h0, h5, h1, hub, hsub, cells_gn, GN.tc, List.length_map]; exact rfl)) | (with_reducible first | refine gk_tt ?_ | refine gk_ff ?_ | refine ck_t ?_ | refine ck_f ?_) | ((with_reducible first | refine gk_tf ?_ | refine gk_ft ?_ | refine gk_u ?_ | refine gk_u' ?_); first | (intro _ e; (first | rw [put_some] at e | rw [put_none] at e); subst e) | (intro _ _ e e'; (first | rw [put_some] at e | rw [put_none] at e); subst e; subst e'))))
    rw [hmap, hlen]
    exact hret _ _ 10 _ rfl rfl rfl (by decide)
set_option maxHeartbeats 1000000 in
theorem tailC (k w : Int) (x : ByteArray) {Q : Post} {fr : Fr} {t0 : Option (Nat × Nat × Nat)} (h0 : Ab.get fr 0 = .ptr 0 0 0) (h5 : Ab.get fr 5 = .ptr 1 0 0) (hl : True)
    (hret : EndR (finI ([] : List GN) ⟨k, w, x, []⟩) t0 Q) : awp Try.prog tl101 Q fr [some ⟨false, 75, 1, [[.pv (.lit (.slice none 0 0))]], t0⟩, some ⟨false, 122, 4, [[.pv (ii k), .pv (ii w), .pv (ss x), .pv (.lit (.slice none 0 0))]], none⟩] := by
  have hf := idxG_ok 122 [.rptr [ii k, ii w, ss x, .list 1 (encI [])]] (fun m => eqG m ⟨k, w, x, []⟩) ([] : List GN) (fun m _ => ins1_ok m ⟨k, w, x, []⟩)
  unfold finI at hret
  have hub : 0 + 1 ≤ big := by unfold big; omega
  have hsub : IntKind.i64.wrap (((1 : Nat) : Int) - 1) = 0 := by decide
  have hld : ∀ (d : Option Nat) (os : List AOp) (K : List Foot → Fr → Hp → Prop) (fr : Fr) (base i : Nat) (lk : List Nat) (lks : List (List Nat)) (tr : List Foot), (∀ fr' tr', put d (.pv (GN.mk k w x []).enc) fr = fr' → tr ++ [⟨lk, d, [1], []⟩] = tr' → aopsD Try.prog base (i + 1) os lks fr' [some ⟨false, 75, 1, [[.pv (.lit (.slice none 0 0))]], t0⟩, some ⟨false, 122, 4, [[.pv (ii k), .pv (ii w), .pv (ss x), .pv (.lit (.slice none 0 0))]], none⟩] tr' K) → Ab.get fr 5 = .ptr 1 0 0 → aopsD Try.prog base i (⟨d, .load true 4 (.tmp 5), none⟩ :: os) (lk :: lks) fr [some ⟨false, 75, 1, [[.pv (.lit (.slice none 0 0))]], t0⟩, some ⟨false, 122, 4, [[.pv (ii k), .pv (ii w), .pv (ss x), .pv (.lit (.slice none 0 0))]], none⟩] tr K := by
    intro d os K fr base i lk lks tr h h5
    refine aopsD_frz rfl [] (GN.mk k w x []).enc fun C hC => ?_
    simp only [go_sem, h5]
    refine hC _ _ _ _ _ _ ?_ rfl rfl rfl (h _ _ rfl rfl)
    rw [GN.enc]
    exact .agg _ _ (.cons _ _ _ _ (.pv _) (.cons _ _ _ _ (.pv _) (.cons _ _ _ _ (.pv _) (.cons _ _ _ _ (Vw_nil) .nil))))
  unfold tl101 ac101
  cases h1 : decide (idxF (fun m => eqG m ⟨k, w, x, []⟩) ([] : List GN) 0 ≥ 0) with
  | true =>
    rw [h1, if_pos rfl] at hret
    simp [idxF] at h1
  | false =>
    rw [h1, if_neg (by simp)] at hret
    (repeat' (first | ((with_reducible refine hld _ _ _ _ _ _ _ _ _ (fun _ _ e e' => ?_) (by simp only [go_sem, h5])); (first | rw [put_some] at e | rw [put_none] at e); subst e; subst e') | ((first | (with_reducible refine aops_call fun C hC => ?_) | (with_reducible refine aopsD_call fun C hC => ?_) | ((with_reducible intro C hC); (with_reducible refine ax_call_mp ?_))); (first | (simp only [go_sem, h0, h5, h1, hub, hsub, cells_gn, GN.tc, List.length_map]; (first | ((with_reducible apply ACall.pure0 [1] (hf)); (focus ((first | exact vwA | exact vwW))))))); (simp only [PV.scal, PV.scalL, if_true, Bool.and_true, Bool.and_false, Bool.false_and, Bool.true_and, frz, List.map_nil, Bool.false_eq_true, if_false, ite_self, go_sem, h0, h5, h1, hub, hsub, cells_gn, GN.tc, List.length_map]); ((with_reducible first | refine finA hC ?_ | refine finD hC ?_); clear hC C)) | ((with_reducible first | refine aops_cons' fun C hC => ?_ | refine aopsD_cons' fun C hC => ?_ | intro C hC); simp only [go_sem, h0, h5, h1, hub, hsub, cells_gn, GN.tc, List.length_map]; ((with_reducible first | refine finA hC ?_ | refine finD hC ?_); clear hC C)) | (with_reducible first | refine awp_seq_k fun K hK => ?_ | refine awp_reg_k fun K hK => ?_ | refine awp_dreg_k fun K hK => ?_ | (refine aops_nil ?_; refine hK _ _ ?_; try clear hK K) | (refine aopsD_nil ?_; refine hK _ _ _ ?_ ?_; (focus kernel_rfl); try clear hK K) | (refine thn_normal ?_; refine hK _ _ ?_; try clear hK K) | refine catch_normal ?_ | refine awp_skip_k ?_ | refine awp_ret_k ?_ | refine awp_exit_k ?_ | refine awp_block_k ?_ | (refine thn_exit ?_; try clear hK K) | (refine thn_ret ?_; try clear hK K) | refine catch_ret ?_ | refine catch_exit ?_ | (refine catch_other ?_ ?_; focus decide)) | ((with_reducible first | apply aops_guard' | apply aopsD_guard' | apply awp_cond_g); focus (simp only [go_sem, h0, h5, h1, hub, hsub, cells_gn, GN.tc, List.length_map]; exact rfl)) | (with_reducible first | refine gk_tt ?_ | refine gk_ff ?_ | refine ck_t ?_ | refine ck_f ?_) | ((with_reducible first | refine gk_tf ?_ | refine gk_ft ?_ | refine gk_u ?_ | refine gk_u' ?_); first | (intro _ e; (first | rw [put_some] at e | rw [put_none] at e); subst e) | (intro _ _ e e'; (first | rw [put_some] at e | rw [put_none] at e); subst e; subst e'))))
    exact hret _ _ 9 _ rfl rfl rfl (by decide)
theorem hh2 {h : HF} {a b nb : Nat} {ns : List GN} {t0 t1 : Option (Nat × Nat × Nat)} (h0 : h a = some ⟨false, 75, 1, [[.row b ns.length false]], t0⟩) (h1 : h b = some ⟨false, 122, 4, ns.map GN.tc, t1⟩) :
    ∀ i k, hget [some (arB (.row 1 ns.length false)), some (gB ns)] i = some k → ∃ k', h (rho [a, b] nb i) = some k' ∧ BlkWk (rho [a, b] nb) k' k := fun i k e => by
  rcases i with _ | _ | i <;> (simp only [hget, List.getElem?_cons_zero, List.getElem?_cons_succ, List.getElem?_nil, Option.join_some, Option.join_none, Option.some.injEq] at e)
  · subst e; exact ⟨_, h0, rfl, rfl, rfl, WkX.refl _⟩
  · subst e; exact ⟨_, h1, rfl, rfl, rfl, by simp only [gB, renL_G]; exact WkX.refl _⟩
  · cases e
theorem hhA {h : HF} {a nb : Nat} {t0 : Option (Nat × Nat × Nat)} (h0 : h a = some ⟨false, 75, 1, [[.pv (.lit (.slice none 0 0))]], t0⟩) :
    ∀ i k, hget [some (arB (.pv (.lit (.slice none 0 0))))] i = some k → ∃ k', h (rho [a] nb i) = some k' ∧ BlkWk (rho [a] nb) k' k := fun i k e => by
  cases i with
  | zero =>
    simp only [hget, List.getElem?_cons_zero, Option.join_some, Option.some.injEq] at e
    subst e
    exact ⟨_, h0, rfl, rfl, rfl, WkX.refl _⟩
  | succ i => simp [hget] at e
theorem r2a {a b nb : Nat} : rho [a, b] nb 0 = a := rfl
theorem r2b {a b nb : Nat} : rho [a, b] nb 1 = b := rfl
theorem r2n {a b nb : Nat} : rho [a, b] nb 2 = nb := rfl
theorem r1n {a nb : Nat} : rho [a] nb 1 = nb := rfl
def InsR (t : ST) : Prop := ∀ ns : List GN, ns.length + sz t ≤ 1048576 → MCall Try.prog 101 [.ptr 0 0 0, .pv t.enc] [some (arB (.row 1 ns.length false)), some (gB ns)] (.pv (ii (ins ns t).2)) [some (arB (.row 2 (ins ns t).1.length false)), none, some (gB (ins ns t).1)]
def InsN (t : ST) : Prop := sz t ≤ 1048576 → MCall Try.prog 101 [.ptr 0 0 0, .pv t.enc] [some (arB (.pv (.lit (.slice none 0 0))))] (.pv (ii (ins [] t).2)) [some (arB (.row 1 (ins [] t).1.length false)), some (gB (ins [] t).1)]
theorem ins_get (ns : List GN) (t : ST) : ∃ (j : Nat) (m : GN), (ins ns t).2 = (j : Int) ∧ j < (ins ns t).1.length ∧ ((ins ns t).1.map GN.tc)[j]? = some [.pv (ii m.kd), .pv (ii m.w), .pv (ss m.tx), .pv (.list 1 (encI m.ch))] ∧ wOf (ins ns t).1 (j : Int) = m.w := by
  obtain ⟨h1, h2, _⟩ := ins_spec ns t
  obtain ⟨j, hj⟩ : ∃ j : Nat, (ins ns t).2 = (j : Int) := ⟨(ins ns t).2.toNat, by omega⟩
  have hl : j < (ins ns t).1.length := by omega
  have hg := List.getElem?_eq_getElem hl
  refine ⟨j, (ins ns t).1[j], hj, hl, by rw [List.getElem?_map, hg]; rfl, wOf_get (by simp)⟩
set_option maxHeartbeats 4000000 in
theorem rowsA (cs : List ST) (k : Int) (x : ByteArray) {K : Fr → Hp → Prop} {Q : Post} {t0 : Option (Nat × Nat × Nat)} (hrec : ∀ c ∈ cs, InsR c) (hcl : cs.length ≤ 1048576) (fin : List GN × List Int × Int)
    (hN : ∀ fr, Ab.get fr 0 = .ptr 0 0 0 → Ab.get fr 5 = .ptr 2 0 0 → K fr [some ⟨false, 75, 1, [[.row 1 (fin.1).length false]], t0⟩, some ⟨false, 122, 4, (fin.1).map GN.tc, none⟩, some ⟨false, 122, 4, [[.pv (ii k), .pv (ii fin.2.2), .pv (ss x), .row 3 (fin.2.1).length false]], none⟩, some ⟨false, 3, 1, (fin.2.1).map cI, none⟩]) : ∀ (rest pre : List ST) (ns : List GN) (is : List Int) (w : Int), pre ++ rest = cs → ns.length + szL rest ≤ 1048576 → is.length + rest.length ≤ 1048576 → insL ns rest is w = fin →
    loopN (awp Try.prog ac101_l0) (catch_ 0 (thn K Q)) (rest.length + 1) [(21, .pv (ii pre.length)), (20, .pv (ii cs.length)), (19, .pv (.list 3 (encST cs))), (5, .ptr 2 0 0), (0, .ptr 0 0 0)] [some ⟨false, 75, 1, [[.row 1 (ns).length false]], t0⟩, some ⟨false, 122, 4, (ns).map GN.tc, none⟩, some ⟨false, 122, 4, [[.pv (ii k), .pv (ii w), .pv (ss x), .row 3 (is).length false]], none⟩, some ⟨false, 3, 1, (is).map cI, none⟩] := by
  intro rest
  induction rest with
  | nil =>
    intro pre ns is w hpre hsz hil he
    have hpre : pre = cs := by simpa using hpre
    have hlt : decide ((pre.length : Int) < (cs.length : Int)) = false := by rw [hpre]; exact lt_end _
    simp only [insL] at he
    subst he
    refine loopN_k fun K1 hK1 => ?_
    unfold ac101_l0
    (repeat' (first | ((with_reducible first | refine aops_cons' fun C hC => ?_ | refine aopsD_cons' fun C hC => ?_ | intro C hC); simp only [go_sem, hlt]; ((with_reducible first | refine finA hC ?_ | refine finD hC ?_); clear hC C)) | (with_reducible first | refine awp_seq_k fun K hK => ?_ | refine awp_reg_k fun K hK => ?_ | refine awp_dreg_k fun K hK => ?_ | (refine aops_nil ?_; refine hK _ _ ?_; try clear hK K) | (refine aopsD_nil ?_; refine hK _ _ _ ?_ ?_; (focus kernel_rfl); try clear hK K) | (refine thn_normal ?_; refine hK _ _ ?_; try clear hK K) | refine catch_normal ?_ | refine awp_skip_k ?_ | refine awp_ret_k ?_ | refine awp_exit_k ?_ | refine awp_block_k ?_ | (refine thn_exit ?_; try clear hK K) | (refine thn_ret ?_; try clear hK K) | refine catch_ret ?_ | refine catch_exit ?_ | (refine catch_other ?_ ?_; focus decide)) | ((with_reducible first | apply aops_guard' | apply aopsD_guard' | apply awp_cond_g); focus (simp only [go_sem, hlt]; exact rfl)) | (with_reducible first | refine gk_tt ?_ | refine gk_ff ?_ | refine ck_t ?_ | refine ck_f ?_) | ((with_reducible first | refine gk_tf ?_ | refine gk_ft ?_ | refine gk_u ?_ | refine gk_u' ?_); first | (intro _ e; (first | rw [put_some] at e | rw [put_none] at e); subst e) | (intro _ _ e e'; (first | rw [put_some] at e | rw [put_none] at e); subst e; subst e'))))
    refine hN _ rfl rfl
  | cons c rest ih =>
    intro pre ns is w hpre hsz hil he
    have hub : is.length + 1 ≤ big := by simp only [List.length_cons] at hil; unfold big; omega
    have hlt : decide ((pre.length : Int) < (cs.length : Int)) = true := by rw [← hpre]; exact lt_app _ _ _
    have hat : (encST cs)[pre.length]? = some c.enc := by rw [← hpre]; exact encST_at _ _ _
    have hb : pre.length + 1 ≤ big := by have := congrArg List.length hpre; simp at this; unfold big; omega
    have hw := wrapS (n := pre.length) (by unfold big at hb; omega)
    have hcm : c ∈ cs := by rw [← hpre]; simp
    have hins := (ins_spec ns c).2.2.1
    obtain ⟨j, mm, hj1, hj2, hat2, hj3⟩ := ins_get ns c
    simp only [insL] at he
    simp only [szL, List.length_cons] at hsz hil
    have hc := hrec c hcm ns (by omega)
    rw [hj1] at he hc
    rw [hj3] at he
    generalize (ins ns c).1 = q at hc he hj2 hat2 hins
    refine loopN_k fun K1 hK1 => ?_
    unfold ac101_l0
    (repeat' (first | ((with_reducible first | refine aops_cons' fun C hC => ?_ | refine aopsD_cons' fun C hC => ?_ | intro C hC); simp only [go_sem, hlt, hat, pcells_st, vc_agg]; ((with_reducible first | refine finA hC ?_ | refine finD hC ?_); clear hC C)) | (with_reducible first | refine awp_seq_k fun K hK => ?_ | refine awp_reg_k fun K hK => ?_ | refine awp_dreg_k fun K hK => ?_ | (refine aops_nil ?_; refine hK _ _ ?_; try clear hK K) | (refine aopsD_nil ?_; refine hK _ _ _ ?_ ?_; (focus kernel_rfl); try clear hK K) | (refine thn_normal ?_; refine hK _ _ ?_; try clear hK K) | refine catch_normal ?_ | refine awp_skip_k ?_ | refine awp_ret_k ?_ | refine awp_exit_k ?_ | refine awp_block_k ?_ | (refine thn_exit ?_; try clear hK K) | (refine thn_ret ?_; try clear hK K) | refine catch_ret ?_ | refine catch_exit ?_ | (refine catch_other ?_ ?_; focus decide)) | ((with_reducible first | apply aops_guard' | apply aopsD_guard' | apply awp_cond_g); focus (simp only [go_sem, hlt, hat, pcells_st, vc_agg]; exact rfl)) | (with_reducible first | refine gk_tt ?_ | refine gk_ff ?_ | refine ck_t ?_ | refine ck_f ?_) | ((with_reducible first | refine gk_tf ?_ | refine gk_ft ?_ | refine gk_u ?_ | refine gk_u' ?_); first | (intro _ e; (first | rw [put_some] at e | rw [put_none] at e); subst e) | (intro _ _ e e'; (first | rw [put_some] at e | rw [put_none] at e); subst e; subst e'))))
    refine aops_call fun C hC => ?_
    simp only [go_sem]
    refine ACall.heap [0, 1] hc rfl (by decide) (by decide) (VM.eq (.ptr 0 0 0) _ _ (VM.pv (.agg [.pv (ii c.kd), .pv (ss c.tx), .pv (.list 3 (encST c.ch))]) _ _ _ (by rw [enc_st]; exact .agg _ _ (.cons _ _ _ _ (.pv _) (.cons _ _ _ _ (.pv _) (.cons _ _ _ _ (.pv _) .nil)))) .nil)) (hh2 rfl rfl) ?_
    simp only [V.ren, V.renL, outD, outB, rho0, r2a, r2b, r2n, r1n, hget_zero, hget_succ, Option.map_some, Option.map_none, Option.bind_some, arB, gB, renL_G, List.map_cons, List.map_nil]
    (with_reducible refine finA hC ?_); clear hC C
    (repeat' (first | ((with_reducible first | refine aops_cons' fun C hC => ?_ | refine aopsD_cons' fun C hC => ?_ | intro C hC); simp only [go_sem, hat2, hj2, hub, List.length_map, Int.toNat_natCast, vc_agg]; ((with_reducible first | refine finA hC ?_ | refine finD hC ?_); clear hC C)) | (with_reducible first | refine awp_seq_k fun K hK => ?_ | refine awp_reg_k fun K hK => ?_ | refine awp_dreg_k fun K hK => ?_ | (refine aops_nil ?_; refine hK _ _ ?_; try clear hK K) | (refine aopsD_nil ?_; refine hK _ _ _ ?_ ?_; (focus kernel_rfl); try clear hK K) | (refine thn_normal ?_; refine hK _ _ ?_; try clear hK K) | refine catch_normal ?_ | refine awp_skip_k ?_ | refine awp_ret_k ?_ | refine awp_exit_k ?_ | refine awp_block_k ?_ | (refine thn_exit ?_; try clear hK K) | (refine thn_ret ?_; try clear hK K) | refine catch_ret ?_ | refine catch_exit ?_ | (refine catch_other ?_ ?_; focus decide)) | ((with_reducible first | apply aops_guard' | apply aopsD_guard' | apply awp_cond_g); focus (simp only [go_sem, hat2, hj2, hub, List.length_map, Int.toNat_natCast, vc_agg]; exact rfl)) | (with_reducible first | refine gk_tt ?_ | refine gk_ff ?_ | refine ck_t ?_ | refine ck_f ?_) | ((with_reducible first | refine gk_tf ?_ | refine gk_ft ?_ | refine gk_u ?_ | refine gk_u' ?_); first | (intro _ e; (first | rw [put_some] at e | rw [put_none] at e); subst e) | (intro _ _ e e'; (first | rw [put_some] at e | rw [put_none] at e); subst e; subst e'))))
    refine thn_normal ?_
    refine hK1 _ _ _ _ _ (LeB [0, 5, 2, 7] (by refine ⟨?_, ?_, ?_⟩ <;> simp only [leFr, leFb, leHp, V.ren, V.renL, V.bd, V.bdL, allL, lt, Go.Ab.get, hget, List.map_cons, List.map_nil, List.length_cons, List.length_nil, List.length_append, List.getElem?_cons_zero, List.getElem?_cons_succ, List.getElem?_nil, Option.join_some, Option.join_none, List.getD_cons_zero, List.getD_cons_succ, List.getD_nil, Nat.reduceAdd, Nat.reduceLT, Nat.reduceEqDiff, Nat.zero_add, reduceIte, if_true, if_false, and_true, true_and, renL_vcells, allL_vcells, renL_pv, leBlk_some, eq_self, true_or, or_true, reduceCtorEq, false_or, hw, List.length_append, List.map_append, List.map_cons, List.map_nil, renL_G, renL_G1, allL_G, bdL_G1, renL_cI, allL_cI, allL_app, bdL_cI1, cI, allL, List.length_cons, List.length_nil])) (ih (pre ++ [c]) q (is ++ [(j : Int)]) _ (by simp [hpre]) (by omega) (by simp; omega) he)
set_option maxHeartbeats 4000000 in
theorem firstB (cs : List ST) (ns : List GN) (k : Int) (x : ByteArray) (w : Int) {K : Fr → Hp → Prop} {Q : Post} {t0 t1 : Option (Nat × Nat × Nat)} (hrec : ∀ c ∈ cs, InsR c) (hcl : cs.length ≤ 1048576) (hsz : ns.length + szL cs ≤ 1048576) (fin : List GN × List Int × Int) (he : insL ns cs [] w = fin)
    (hN0 : cs = [] → ∀ fr, Ab.get fr 0 = .ptr 0 0 0 → Ab.get fr 5 = .ptr 2 0 0 → K fr [some ⟨false, 75, 1, [[.row 1 (ns).length false]], t0⟩, some ⟨false, 122, 4, (ns).map GN.tc, t1⟩, some ⟨false, 122, 4, [[.pv (ii k), .pv (ii w), .pv (ss x), .pv (.lit (.slice none 0 0))]], none⟩]) (hN : ∀ fr, Ab.get fr 0 = .ptr 0 0 0 → Ab.get fr 5 = .ptr 2 0 0 → K fr [some ⟨false, 75, 1, [[.row 1 (fin.1).length false]], t0⟩, some ⟨false, 122, 4, (fin.1).map GN.tc, none⟩, some ⟨false, 122, 4, [[.pv (ii k), .pv (ii fin.2.2), .pv (ss x), .row 3 (fin.2.1).length false]], none⟩, some ⟨false, 3, 1, (fin.2.1).map cI, none⟩]) :
    loopN (awp Try.prog ac101_l0) (catch_ 0 (thn K Q)) (cs.length + 1) [(21, .pv (ii 0)), (20, .pv (ii cs.length)), (19, .pv (.list 3 (encST cs))), (5, .ptr 2 0 0), (0, .ptr 0 0 0)] [some ⟨false, 75, 1, [[.row 1 (ns).length false]], t0⟩, some ⟨false, 122, 4, (ns).map GN.tc, t1⟩, some ⟨false, 122, 4, [[.pv (ii k), .pv (ii w), .pv (ss x), .pv (.lit (.slice none 0 0))]], none⟩] := by
  cases hcs : cs with
  | nil =>
    refine loopN_k fun K1 hK1 => ?_
    unfold ac101_l0
    (repeat' (first | ((with_reducible first | refine aops_cons' fun C hC => ?_ | refine aopsD_cons' fun C hC => ?_ | intro C hC); simp only [go_sem, List.length_nil, Int.cast_ofNat_Int, Int.lt_irrefl, decide_false]; ((with_reducible first | refine finA hC ?_ | refine finD hC ?_); clear hC C)) | (with_reducible first | refine awp_seq_k fun K hK => ?_ | refine awp_reg_k fun K hK => ?_ | refine awp_dreg_k fun K hK => ?_ | (refine aops_nil ?_; refine hK _ _ ?_; try clear hK K) | (refine aopsD_nil ?_; refine hK _ _ _ ?_ ?_; (focus kernel_rfl); try clear hK K) | (refine thn_normal ?_; refine hK _ _ ?_; try clear hK K) | refine catch_normal ?_ | refine awp_skip_k ?_ | refine awp_ret_k ?_ | refine awp_exit_k ?_ | refine awp_block_k ?_ | (refine thn_exit ?_; try clear hK K) | (refine thn_ret ?_; try clear hK K) | refine catch_ret ?_ | refine catch_exit ?_ | (refine catch_other ?_ ?_; focus decide)) | ((with_reducible first | apply aops_guard' | apply aopsD_guard' | apply awp_cond_g); focus (simp only [go_sem, List.length_nil, Int.cast_ofNat_Int, Int.lt_irrefl, decide_false]; exact rfl)) | (with_reducible first | refine gk_tt ?_ | refine gk_ff ?_ | refine ck_t ?_ | refine ck_f ?_) | ((with_reducible first | refine gk_tf ?_ | refine gk_ft ?_ | refine gk_u ?_ | refine gk_u' ?_); first | (intro _ e; (first | rw [put_some] at e | rw [put_none] at e); subst e) | (intro _ _ e e'; (first | rw [put_some] at e | rw [put_none] at e); subst e; subst e'))))
    refine hN0 hcs _ rfl rfl
  | cons c rest =>
    have hub : 0 + 1 ≤ big := by unfold big; omega
    have hil : (c :: rest).length ≤ 1048576 := by rw [← hcs]; exact hcl
    rw [hcs] at he hsz
    rw [← hcs]
    have hlt : decide ((0 : Int) < (cs.length : Int)) = true := by rw [hcs]; simp
    have hat : (encST cs)[0]? = some c.enc := by rw [hcs]; rfl
    have hw := wrap01
    have hcm : c ∈ cs := by rw [hcs]; simp
    have hins := (ins_spec ns c).2.2.1
    obtain ⟨j, mm, hj1, hj2, hat2, hj3⟩ := ins_get ns c
    simp only [insL] at he
    simp only [szL, List.length_cons] at hsz hil
    have hc := hrec c hcm ns (by omega)
    rw [hj1] at he hc
    rw [hj3] at he
    generalize (ins ns c).1 = q at hc he hj2 hat2 hins
    refine loopN_k fun K1 hK1 => ?_
    unfold ac101_l0
    (repeat' (first | ((with_reducible first | refine aops_cons' fun C hC => ?_ | refine aopsD_cons' fun C hC => ?_ | intro C hC); simp only [go_sem, hlt, hat, pcells_st, vc_agg]; ((with_reducible first | refine finA hC ?_ | refine finD hC ?_); clear hC C)) | (with_reducible first | refine awp_seq_k fun K hK => ?_ | refine awp_reg_k fun K hK => ?_ | refine awp_dreg_k fun K hK => ?_ | (refine aops_nil ?_; refine hK _ _ ?_; try clear hK K) | (refine aopsD_nil ?_; refine hK _ _ _ ?_ ?_; (focus kernel_rfl); try clear hK K) | (refine thn_normal ?_; refine hK _ _ ?_; try clear hK K) | refine catch_normal ?_ | refine awp_skip_k ?_ | refine awp_ret_k ?_ | refine awp_exit_k ?_ | refine awp_block_k ?_ | (refine thn_exit ?_; try clear hK K) | (refine thn_ret ?_; try clear hK K) | refine catch_ret ?_ | refine catch_exit ?_ | (refine catch_other ?_ ?_; focus decide)) | ((with_reducible first | apply aops_guard' | apply aopsD_guard' | apply awp_cond_g); focus (simp only [go_sem, hlt, hat, pcells_st, vc_agg]; exact rfl)) | (with_reducible first | refine gk_tt ?_ | refine gk_ff ?_ | refine ck_t ?_ | refine ck_f ?_) | ((with_reducible first | refine gk_tf ?_ | refine gk_ft ?_ | refine gk_u ?_ | refine gk_u' ?_); first | (intro _ e; (first | rw [put_some] at e | rw [put_none] at e); subst e) | (intro _ _ e e'; (first | rw [put_some] at e | rw [put_none] at e); subst e; subst e'))))
    refine aops_call fun C hC => ?_
    simp only [go_sem]
    refine ACall.heap [0, 1] hc rfl (by decide) (by decide) (VM.eq (.ptr 0 0 0) _ _ (VM.pv (.agg [.pv (ii c.kd), .pv (ss c.tx), .pv (.list 3 (encST c.ch))]) _ _ _ (by rw [enc_st]; exact .agg _ _ (.cons _ _ _ _ (.pv _) (.cons _ _ _ _ (.pv _) (.cons _ _ _ _ (.pv _) .nil)))) .nil)) (hh2 rfl rfl) ?_
    simp only [V.ren, V.renL, outD, outB, rho0, r2a, r2b, r2n, r1n, hget_zero, hget_succ, Option.map_some, Option.map_none, Option.bind_some, arB, gB, renL_G, List.map_cons, List.map_nil]
    (with_reducible refine finA hC ?_); clear hC C
    (repeat' (first | ((with_reducible first | refine aops_cons' fun C hC => ?_ | refine aopsD_cons' fun C hC => ?_ | intro C hC); simp only [go_sem, hat2, hj2, hub, List.length_map, Int.toNat_natCast, vc_agg]; ((with_reducible first | refine finA hC ?_ | refine finD hC ?_); clear hC C)) | (with_reducible first | refine awp_seq_k fun K hK => ?_ | refine awp_reg_k fun K hK => ?_ | refine awp_dreg_k fun K hK => ?_ | (refine aops_nil ?_; refine hK _ _ ?_; try clear hK K) | (refine aopsD_nil ?_; refine hK _ _ _ ?_ ?_; (focus kernel_rfl); try clear hK K) | (refine thn_normal ?_; refine hK _ _ ?_; try clear hK K) | refine catch_normal ?_ | refine awp_skip_k ?_ | refine awp_ret_k ?_ | refine awp_exit_k ?_ | refine awp_block_k ?_ | (refine thn_exit ?_; try clear hK K) | (refine thn_ret ?_; try clear hK K) | refine catch_ret ?_ | refine catch_exit ?_ | (refine catch_other ?_ ?_; focus decide)) | ((with_reducible first | apply aops_guard' | apply aopsD_guard' | apply awp_cond_g); focus (simp only [go_sem, hat2, hj2, hub, List.length_map, Int.toNat_natCast, vc_agg]; exact rfl)) | (with_reducible first | refine gk_tt ?_ | refine gk_ff ?_ | refine ck_t ?_ | refine ck_f ?_) | ((with_reducible first | refine gk_tf ?_ | refine gk_ft ?_ | refine gk_u ?_ | refine gk_u' ?_); first | (intro _ e; (first | rw [put_some] at e | rw [put_none] at e); subst e) | (intro _ _ e e'; (first | rw [put_some] at e | rw [put_none] at e); subst e; subst e'))))
    refine thn_normal ?_
    have z := rowsA cs k x (K := K) (Q := Q) (t0 := t0) hrec hcl fin hN rest [c] q [(j : Int)] _ (by rw [hcs]; rfl) (by omega) (by simp; omega) he
    rw [show rest.length + 1 = cs.length by rw [hcs]; rfl] at z
    refine hK1 _ _ _ _ _ (LeB [0, 4, 2, 6] (by refine ⟨?_, ?_, ?_⟩ <;> simp only [leFr, leFb, leHp, V.ren, V.renL, V.bd, V.bdL, allL, lt, Go.Ab.get, hget, List.map_cons, List.map_nil, List.length_cons, List.length_nil, List.length_append, List.getElem?_cons_zero, List.getElem?_cons_succ, List.getElem?_nil, Option.join_some, Option.join_none, List.getD_cons_zero, List.getD_cons_succ, List.getD_nil, Nat.reduceAdd, Nat.reduceLT, Nat.reduceEqDiff, Nat.zero_add, reduceIte, if_true, if_false, and_true, true_and, renL_vcells, allL_vcells, renL_pv, leBlk_some, eq_self, true_or, or_true, reduceCtorEq, false_or, hw, List.map_append, List.map_cons, List.map_nil, renL_G, renL_G1, allL_G, bdL_G1, renL_cI, allL_cI, allL_app, bdL_cI1, cI, allL, List.length_cons, List.length_nil, Nat.zero_add])) z
set_option maxHeartbeats 4000000 in
theorem firstC (cs : List ST) (k : Int) (x : ByteArray) (w : Int) {K : Fr → Hp → Prop} {Q : Post} {t0 : Option (Nat × Nat × Nat)} (hrec : ∀ c ∈ cs, InsR c) (hrecN : ∀ c ∈ cs, InsN c) (hcl : cs.length ≤ 1048576) (hsz : szL cs ≤ 1048576) (fin : List GN × List Int × Int) (he : insL ([] : List GN) cs [] w = fin)
    (hN0 : cs = [] → ∀ fr, Ab.get fr 0 = .ptr 0 0 0 → Ab.get fr 5 = .ptr 1 0 0 → K fr [some ⟨false, 75, 1, [[.pv (.lit (.slice none 0 0))]], t0⟩, some ⟨false, 122, 4, [[.pv (ii k), .pv (ii w), .pv (ss x), .pv (.lit (.slice none 0 0))]], none⟩]) (hN : ∀ fr, Ab.get fr 0 = .ptr 0 0 0 → Ab.get fr 5 = .ptr 2 0 0 → K fr [some ⟨false, 75, 1, [[.row 1 (fin.1).length false]], t0⟩, some ⟨false, 122, 4, (fin.1).map GN.tc, none⟩, some ⟨false, 122, 4, [[.pv (ii k), .pv (ii fin.2.2), .pv (ss x), .row 3 (fin.2.1).length false]], none⟩, some ⟨false, 3, 1, (fin.2.1).map cI, none⟩]) :
    loopN (awp Try.prog ac101_l0) (catch_ 0 (thn K Q)) (cs.length + 1) [(21, .pv (ii 0)), (20, .pv (ii cs.length)), (19, .pv (.list 3 (encST cs))), (5, .ptr 1 0 0), (0, .ptr 0 0 0)] [some ⟨false, 75, 1, [[.pv (.lit (.slice none 0 0))]], t0⟩, some ⟨false, 122, 4, [[.pv (ii k), .pv (ii w), .pv (ss x), .pv (.lit (.slice none 0 0))]], none⟩] := by
  cases hcs : cs with
  | nil =>
    refine loopN_k fun K1 hK1 => ?_
    unfold ac101_l0
    (repeat' (first | ((with_reducible first | refine aops_cons' fun C hC => ?_ | refine aopsD_cons' fun C hC => ?_ | intro C hC); simp only [go_sem, List.length_nil, Int.cast_ofNat_Int, Int.lt_irrefl, decide_false]; ((with_reducible first | refine finA hC ?_ | refine finD hC ?_); clear hC C)) | (with_reducible first | refine awp_seq_k fun K hK => ?_ | refine awp_reg_k fun K hK => ?_ | refine awp_dreg_k fun K hK => ?_ | (refine aops_nil ?_; refine hK _ _ ?_; try clear hK K) | (refine aopsD_nil ?_; refine hK _ _ _ ?_ ?_; (focus kernel_rfl); try clear hK K) | (refine thn_normal ?_; refine hK _ _ ?_; try clear hK K) | refine catch_normal ?_ | refine awp_skip_k ?_ | refine awp_ret_k ?_ | refine awp_exit_k ?_ | refine awp_block_k ?_ | (refine thn_exit ?_; try clear hK K) | (refine thn_ret ?_; try clear hK K) | refine catch_ret ?_ | refine catch_exit ?_ | (refine catch_other ?_ ?_; focus decide)) | ((with_reducible first | apply aops_guard' | apply aopsD_guard' | apply awp_cond_g); focus (simp only [go_sem, List.length_nil, Int.cast_ofNat_Int, Int.lt_irrefl, decide_false]; exact rfl)) | (with_reducible first | refine gk_tt ?_ | refine gk_ff ?_ | refine ck_t ?_ | refine ck_f ?_) | ((with_reducible first | refine gk_tf ?_ | refine gk_ft ?_ | refine gk_u ?_ | refine gk_u' ?_); first | (intro _ e; (first | rw [put_some] at e | rw [put_none] at e); subst e) | (intro _ _ e e'; (first | rw [put_some] at e | rw [put_none] at e); subst e; subst e'))))
    refine hN0 hcs _ rfl rfl
  | cons c rest =>
    have hub : 0 + 1 ≤ big := by unfold big; omega
    have hil : (c :: rest).length ≤ 1048576 := by rw [← hcs]; exact hcl
    rw [hcs] at he hsz
    rw [← hcs]
    have hlt : decide ((0 : Int) < (cs.length : Int)) = true := by rw [hcs]; simp
    have hat : (encST cs)[0]? = some c.enc := by rw [hcs]; rfl
    have hw := wrap01
    have hcm : c ∈ cs := by rw [hcs]; simp
    have hins := (ins_spec ([] : List GN) c).2.2.1
    obtain ⟨j, mm, hj1, hj2, hat2, hj3⟩ := ins_get ([] : List GN) c
    simp only [insL] at he
    simp only [szL, List.length_cons] at hsz hil
    have hc := hrecN c hcm (by omega)
    rw [hj1] at he hc
    rw [hj3] at he
    generalize (ins ([] : List GN) c).1 = q at hc he hj2 hat2 hins
    refine loopN_k fun K1 hK1 => ?_
    unfold ac101_l0
    (repeat' (first | ((with_reducible first | refine aops_cons' fun C hC => ?_ | refine aopsD_cons' fun C hC => ?_ | intro C hC); simp only [go_sem, hlt, hat, pcells_st, vc_agg]; ((with_reducible first | refine finA hC ?_ | refine finD hC ?_); clear hC C)) | (with_reducible first | refine awp_seq_k fun K hK => ?_ | refine awp_reg_k fun K hK => ?_ | refine awp_dreg_k fun K hK => ?_ | (refine aops_nil ?_; refine hK _ _ ?_; try clear hK K) | (refine aopsD_nil ?_; refine hK _ _ _ ?_ ?_; (focus kernel_rfl); try clear hK K) | (refine thn_normal ?_; refine hK _ _ ?_; try clear hK K) | refine catch_normal ?_ | refine awp_skip_k ?_ | refine awp_ret_k ?_ | refine awp_exit_k ?_ | refine awp_block_k ?_ | (refine thn_exit ?_; try clear hK K) | (refine thn_ret ?_; try clear hK K) | refine catch_ret ?_ | refine catch_exit ?_ | (refine catch_other ?_ ?_; focus decide)) | ((with_reducible first | apply aops_guard' | apply aopsD_guard' | apply awp_cond_g); focus (simp only [go_sem, hlt, hat, pcells_st, vc_agg]; exact rfl)) | (with_reducible first | refine gk_tt ?_ | refine gk_ff ?_ | refine ck_t ?_ | refine ck_f ?_) | ((with_reducible first | refine gk_tf ?_ | refine gk_ft ?_ | refine gk_u ?_ | refine gk_u' ?_); first | (intro _ e; (first | rw [put_some] at e | rw [put_none] at e); subst e) | (intro _ _ e e'; (first | rw [put_some] at e | rw [put_none] at e); subst e; subst e'))))
    refine aops_call fun C hC => ?_
    simp only [go_sem]
    refine ACall.heap [0] hc rfl (by decide) (by decide) (VM.eq (.ptr 0 0 0) _ _ (VM.pv (.agg [.pv (ii c.kd), .pv (ss c.tx), .pv (.list 3 (encST c.ch))]) _ _ _ (by rw [enc_st]; exact .agg _ _ (.cons _ _ _ _ (.pv _) (.cons _ _ _ _ (.pv _) (.cons _ _ _ _ (.pv _) .nil)))) .nil)) (hhA rfl) ?_
    simp only [V.ren, V.renL, outD, outB, rho0, r2a, r2b, r2n, r1n, hget_zero, hget_succ, Option.map_some, Option.map_none, Option.bind_some, arB, gB, renL_G, List.map_cons, List.map_nil]
    (with_reducible refine finA hC ?_); clear hC C
    (repeat' (first | ((with_reducible first | refine aops_cons' fun C hC => ?_ | refine aopsD_cons' fun C hC => ?_ | intro C hC); simp only [go_sem, hat2, hj2, hub, List.length_map, Int.toNat_natCast, vc_agg]; ((with_reducible first | refine finA hC ?_ | refine finD hC ?_); clear hC C)) | (with_reducible first | refine awp_seq_k fun K hK => ?_ | refine awp_reg_k fun K hK => ?_ | refine awp_dreg_k fun K hK => ?_ | (refine aops_nil ?_; refine hK _ _ ?_; try clear hK K) | (refine aopsD_nil ?_; refine hK _ _ _ ?_ ?_; (focus kernel_rfl); try clear hK K) | (refine thn_normal ?_; refine hK _ _ ?_; try clear hK K) | refine catch_normal ?_ | refine awp_skip_k ?_ | refine awp_ret_k ?_ | refine awp_exit_k ?_ | refine awp_block_k ?_ | (refine thn_exit ?_; try clear hK K) | (refine thn_ret ?_; try clear hK K) | refine catch_ret ?_ | refine catch_exit ?_ | (refine catch_other ?_ ?_; focus decide)) | ((with_reducible first | apply aops_guard' | apply aopsD_guard' | apply awp_cond_g); focus (simp only [go_sem, hat2, hj2, hub, List.length_map, Int.toNat_natCast, vc_agg]; exact rfl)) | (with_reducible first | refine gk_tt ?_ | refine gk_ff ?_ | refine ck_t ?_ | refine ck_f ?_) | ((with_reducible first | refine gk_tf ?_ | refine gk_ft ?_ | refine gk_u ?_ | refine gk_u' ?_); first | (intro _ e; (first | rw [put_some] at e | rw [put_none] at e); subst e) | (intro _ _ e e'; (first | rw [put_some] at e | rw [put_none] at e); subst e; subst e'))))
    refine thn_normal ?_
    simp only [List.length_nil] at hins
    have z := rowsA cs k x (K := K) (Q := Q) (t0 := t0) hrec hcl fin hN rest [c] q [(j : Int)] _ (by rw [hcs]; rfl) (by omega) (by simp; omega) he
    rw [show rest.length + 1 = cs.length by rw [hcs]; rfl] at z
    refine hK1 _ _ _ _ _ (LeB [0, 3, 1, 5] (by refine ⟨?_, ?_, ?_⟩ <;> simp only [leFr, leFb, leHp, V.ren, V.renL, V.bd, V.bdL, allL, lt, Go.Ab.get, hget, List.map_cons, List.map_nil, List.length_cons, List.length_nil, List.length_append, List.getElem?_cons_zero, List.getElem?_cons_succ, List.getElem?_nil, Option.join_some, Option.join_none, List.getD_cons_zero, List.getD_cons_succ, List.getD_nil, Nat.reduceAdd, Nat.reduceLT, Nat.reduceEqDiff, Nat.zero_add, reduceIte, if_true, if_false, and_true, true_and, renL_vcells, allL_vcells, renL_pv, leBlk_some, eq_self, true_or, or_true, reduceCtorEq, false_or, hw, List.map_append, List.map_cons, List.map_nil, renL_G, renL_G1, allL_G, bdL_G1, renL_cI, allL_cI, allL_app, bdL_cI1, cI, allL, List.length_cons, List.length_nil, Nat.zero_add])) z
theorem endR_ok {R : List GN × Int} {m : Nat → Nat × Nat × Nat} : EndR R (some (m 0)) (retM [RV.tmp 4] (.pv (ii R.2)) 2 [some (arB (.row 2 R.1.length false)), none, some (gB R.1)] m) := by
  intro fr H b tg h4 h0 hb hne
  refine ⟨[.pv (ii R.2)], by simp only [resVs, resV, h4], fun i => if i = 2 then b else 0, ?_⟩
  simp only [tagN, Option.map_some, Option.map_none, arB, gB, Nat.zero_add, Nat.reduceAdd, Nat.reduceLT, if_true, if_false, Nat.lt_irrefl]
  refine ⟨fun t => ?_, fun t => ?_, fun c k e => ?_, fun c k e => ?_, fun c d k k' e e' ec => ?_⟩
  · cases t with
    | zero => right; simp only [Ab.get, if_true, oneW, V.ren]
    | succ t => left; simp [Ab.get]
  · cases t with
    | zero => simp [Ab.get, V.bd]
    | succ t => simp [Ab.get, V.bd]
  · rcases c with _ | _ | _ | c <;> (simp only [hget, List.getElem?_cons_zero, List.getElem?_cons_succ, List.getElem?_nil, Option.join_some, Option.join_none, Option.some.injEq, reduceCtorEq] at e)
    · subst e
      exact ⟨_, h0, rfl, rfl, rfl, by simp [V.renL, V.ren], .inr rfl⟩
    · subst e
      exact ⟨⟨false, 122, 4, R.1.map GN.tc, tg⟩, by simpa using hb, rfl, rfl, rfl, by simp only [renL_G], .inl rfl⟩
  · rcases c with _ | _ | _ | c <;> (simp only [hget, List.getElem?_cons_zero, List.getElem?_cons_succ, List.getElem?_nil, Option.join_some, Option.join_none, Option.some.injEq, reduceCtorEq] at e)
    · subst e
      intro cs hcs
      simp only [List.mem_singleton] at hcs; subst hcs; simp [V.bdL, V.bd, lt]
    · subst e
      exact bd_G
  · have hx : ∀ c k, hget [some ⟨false, 75, 1, [[.row 2 R.1.length false]], some (m 0)⟩, none, some ⟨false, 122, 4, R.1.map GN.tc, none⟩] c = some k → c = 0 ∨ c = 2 := fun c k e => by
      rcases c with _ | _ | _ | c <;> (simp only [hget, List.getElem?_cons_zero, List.getElem?_cons_succ, List.getElem?_nil, Option.join_some, Option.join_none, Option.some.injEq, reduceCtorEq] at e) <;> simp
    rcases hx c k e with rfl | rfl <;> rcases hx d k' e' with rfl | rfl <;> simp at ec <;> first | rfl | exact absurd ec hne | exact absurd ec.symm hne
theorem endN_ok {R : List GN × Int} {m : Nat → Nat × Nat × Nat} : EndR R (some (m 0)) (retM [RV.tmp 4] (.pv (ii R.2)) 1 [some (arB (.row 1 R.1.length false)), some (gB R.1)] m) := by
  intro fr H b tg h4 h0 hb hne
  refine ⟨[.pv (ii R.2)], by simp only [resVs, resV, h4], fun i => if i = 1 then b else 0, ?_⟩
  simp only [tagN, Option.map_some, Option.map_none, arB, gB, Nat.zero_add, Nat.reduceAdd, Nat.reduceLT, if_true, if_false, Nat.lt_irrefl]
  refine ⟨fun t => ?_, fun t => ?_, fun c k e => ?_, fun c k e => ?_, fun c d k k' e e' ec => ?_⟩
  · cases t with
    | zero => right; simp only [Ab.get, if_true, oneW, V.ren]
    | succ t => left; simp [Ab.get]
  · cases t with
    | zero => simp [Ab.get, V.bd]
    | succ t => simp [Ab.get, V.bd]
  · rcases c with _ | _ | c <;> (simp only [hget, List.getElem?_cons_zero, List.getElem?_cons_succ, List.getElem?_nil, Option.join_some, Option.join_none, Option.some.injEq, reduceCtorEq] at e)
    · subst e
      exact ⟨_, h0, rfl, rfl, rfl, by simp [V.renL, V.ren], .inr rfl⟩
    · subst e
      exact ⟨⟨false, 122, 4, R.1.map GN.tc, tg⟩, by simpa using hb, rfl, rfl, rfl, by simp only [renL_G], .inl rfl⟩
  · rcases c with _ | _ | c <;> (simp only [hget, List.getElem?_cons_zero, List.getElem?_cons_succ, List.getElem?_nil, Option.join_some, Option.join_none, Option.some.injEq, reduceCtorEq] at e)
    · subst e
      intro cs hcs
      simp only [List.mem_singleton] at hcs; subst hcs; simp [V.bdL, V.bd, lt]
    · subst e
      exact bd_G
  · have hx : ∀ c k, hget [some ⟨false, 75, 1, [[.row 1 R.1.length false]], some (m 0)⟩, some ⟨false, 122, 4, R.1.map GN.tc, none⟩] c = some k → c = 0 ∨ c = 1 := fun c k e => by
      rcases c with _ | _ | c <;> (simp only [hget, List.getElem?_cons_zero, List.getElem?_cons_succ, List.getElem?_nil, Option.join_some, Option.join_none, Option.some.injEq, reduceCtorEq] at e) <;> simp
    rcases hx c k e with rfl | rfl <;> rcases hx d k' e' with rfl | rfl <;> simp at ec <;> first | rfl | exact absurd ec hne | exact absurd ec.symm hne
theorem LV_2 (ns : List GN) : ∀ b, b < 2 → LV [some (arB (.row 1 ns.length false)), some (gB ns)] b := fun b hb => by
  rcases b with _ | _ | b
  · exact ⟨_, rfl⟩
  · exact ⟨_, rfl⟩
  · omega
theorem HpOk_2 (ns : List GN) : HpOk [some (arB (.row 1 ns.length false)), some (gB ns)] := by
  refine ⟨fun b k e => ?_, fun b k e => ?_⟩ <;> (rcases b with _ | _ | b <;> (simp only [hget, List.getElem?_cons_zero, List.getElem?_cons_succ, List.getElem?_nil, Option.join_some, Option.join_none, Option.some.injEq, reduceCtorEq] at e))
  · subst e; rfl
  · subst e; rfl
  · subst e; intro cs hcs; simp only [arB, List.mem_singleton] at hcs; subst hcs; simp only [V.bdL, V.bd, and_true]; exact ⟨_, rfl⟩
  · subst e; exact bd_G
theorem HpOk_2n (ns : List GN) : HpOk [some (arB (.row 2 ns.length false)), none, some (gB ns)] := by
  refine ⟨fun b k e => ?_, fun b k e => ?_⟩ <;> (rcases b with _ | _ | _ | b <;> (simp only [hget, List.getElem?_cons_zero, List.getElem?_cons_succ, List.getElem?_nil, Option.join_some, Option.join_none, Option.some.injEq, reduceCtorEq] at e))
  · subst e; rfl
  · subst e; rfl
  · subst e; intro cs hcs; simp only [arB, List.mem_singleton] at hcs; subst hcs; simp only [V.bdL, V.bd, and_true]; exact ⟨_, rfl⟩
  · subst e; exact bd_G
theorem HpOk_1n : HpOk [some (arB (.pv (.lit (.slice none 0 0))))] := by
  refine ⟨fun b k e => ?_, fun b k e => ?_⟩ <;> (rcases b with _ | b <;> (simp only [hget, List.getElem?_cons_zero, List.getElem?_cons_succ, List.getElem?_nil, Option.join_some, Option.join_none, Option.some.injEq, reduceCtorEq] at e))
  · subst e; rfl
  · subst e; intro cs hcs; simp only [arB, List.mem_singleton] at hcs; subst hcs; simp only [V.bdL, V.bd, and_true]
theorem LV_1n : ∀ b, b < 1 → LV [some (arB (.pv (.lit (.slice none 0 0))))] b := fun b hb => by
  obtain rfl : b = 0 := by omega
  exact ⟨_, rfl⟩
set_option maxHeartbeats 4000000 in
theorem insR_ok (k : Int) (x : ByteArray) (cs : List ST) (hrec : ∀ c ∈ cs, InsR c) : InsR (.mk k x cs) := by
  intro ns hsz
  simp only [sz] at hsz
  have hlc := szL_len cs
  have hrl := insL_spec ns cs [] x.size
  have hR : ins ns (.mk k x cs) = finI (insL ns cs [] x.size).1 ⟨k, (insL ns cs [] x.size).2.2, x, (insL ns cs [] x.size).2.1⟩ := by rw [ins]
  have hR0 : cs = [] → ins ns (.mk k x cs) = finI ns ⟨k, (x.size : Int), x, []⟩ := fun e => by subst e; rw [ins]; rfl
  have he := fun m => endR_ok (R := ins ns (.mk k x cs)) (m := m)
  generalize ins ns (.mk k x cs) = R at hR hR0 he ⊢
  refine MCall.intro fn101 (by simp) (by simp) (by simp) (LV_2 ns) (HpOk_2 ns) (HpOk_2n _) ⟨(LV_2 ns) 0 (by omega), trivial, trivial⟩ trivial fun m => ?_
  unfold ac101
  simp only [argFrV, tagN, List.length_cons, List.length_nil, Option.map_some, Nat.zero_add, Nat.reduceAdd, Nat.reduceLT, if_true, arB, gB, Nat.lt_one_iff]
  (repeat' (first | ((with_reducible first | refine aops_cons' fun C hC => ?_ | refine aopsD_cons' fun C hC => ?_ | intro C hC); simp only [go_sem, pcells_st, cells_st, ST.tc, kd_st, tx_st, ch_st, encST_len]; ((with_reducible first | refine finA hC ?_ | refine finD hC ?_); clear hC C)) | (with_reducible first | refine awp_seq_k fun K hK => ?_ | refine awp_reg_k fun K hK => ?_ | refine awp_dreg_k fun K hK => ?_ | (refine aops_nil ?_; refine hK _ _ ?_; try clear hK K) | (refine aopsD_nil ?_; refine hK _ _ _ ?_ ?_; (focus kernel_rfl); try clear hK K) | (refine thn_normal ?_; refine hK _ _ ?_; try clear hK K) | refine catch_normal ?_ | refine awp_skip_k ?_ | refine awp_ret_k ?_ | refine awp_exit_k ?_ | refine awp_block_k ?_ | (refine thn_exit ?_; try clear hK K) | (refine thn_ret ?_; try clear hK K) | refine catch_ret ?_ | refine catch_exit ?_ | (refine catch_other ?_ ?_; focus decide)) | ((with_reducible first | apply aops_guard' | apply aopsD_guard' | apply awp_cond_g); focus (simp only [go_sem, pcells_st, cells_st, ST.tc, kd_st, tx_st, ch_st, encST_len]; exact rfl)) | (with_reducible first | refine gk_tt ?_ | refine gk_ff ?_ | refine ck_t ?_ | refine ck_f ?_) | ((with_reducible first | refine gk_tf ?_ | refine gk_ft ?_ | refine gk_u ?_ | refine gk_u' ?_); first | (intro _ e; (first | rw [put_some] at e | rw [put_none] at e); subst e) | (intro _ _ e e'; (first | rw [put_some] at e | rw [put_none] at e); subst e; subst e'))))
  refine awp_loop_k _ (LeB [0, 1, 3] (by refine ⟨?_, ?_, ?_⟩ <;> simp only [leFr, leFb, leHp, V.ren, V.renL, V.bd, V.bdL, allL, lt, Go.Ab.get, hget, List.map_cons, List.map_nil, List.length_cons, List.length_nil, List.length_append, List.getElem?_cons_zero, List.getElem?_cons_succ, List.getElem?_nil, Option.join_some, Option.join_none, List.getD_cons_zero, List.getD_cons_succ, List.getD_nil, Nat.reduceAdd, Nat.reduceLT, Nat.reduceEqDiff, Nat.zero_add, reduceIte, if_true, if_false, and_true, true_and, renL_vcells, allL_vcells, renL_pv, leBlk_some, eq_self, true_or, or_true, reduceCtorEq, false_or, c0, allL, List.length_nil, renL_G, allL_G])) (firstB (t0 := some (m 0)) (t1 := some (m 1)) cs ns k x x.size hrec (by omega) (by omega) (insL ns cs [] x.size) rfl (fun e fr h0 h5 => hK _ _ (tailB _ _ _ _ h0 h5 (by omega) (by rw [← hR0 e]; exact he m))) (fun fr h0 h5 => hK _ _ (tailA _ _ _ _ _ h0 h5 (by omega) (by rw [← hR]; exact he m))))
set_option maxHeartbeats 4000000 in
theorem insN_ok (k : Int) (x : ByteArray) (cs : List ST) (hrec : ∀ c ∈ cs, InsR c) (hrecN : ∀ c ∈ cs, InsN c) : InsN (.mk k x cs) := by
  intro hsz
  simp only [sz] at hsz
  have hlc := szL_len cs
  have hrl := insL_spec ([] : List GN) cs [] x.size
  simp only [List.length_nil, Nat.zero_add] at hrl
  have hR : ins ([] : List GN) (.mk k x cs) = finI (insL ([] : List GN) cs [] x.size).1 ⟨k, (insL ([] : List GN) cs [] x.size).2.2, x, (insL ([] : List GN) cs [] x.size).2.1⟩ := by rw [ins]
  have hR0 : cs = [] → ins ([] : List GN) (.mk k x cs) = finI ([] : List GN) ⟨k, (x.size : Int), x, []⟩ := fun e => by subst e; rw [ins]; rfl
  have he := fun m => endN_ok (R := ins ([] : List GN) (.mk k x cs)) (m := m)
  generalize ins ([] : List GN) (.mk k x cs) = R at hR hR0 he ⊢
  refine MCall.intro fn101 (by simp) (by simp) (by simp) LV_1n HpOk_1n (HpOk_2 _) ⟨LV_1n 0 (by omega), trivial, trivial⟩ trivial fun m => ?_
  unfold ac101
  simp only [argFrV, tagN, List.length_cons, List.length_nil, Option.map_some, Nat.zero_add, Nat.reduceAdd, Nat.reduceLT, if_true, arB, gB, Nat.lt_one_iff]
  (repeat' (first | ((with_reducible first | refine aops_cons' fun C hC => ?_ | refine aopsD_cons' fun C hC => ?_ | intro C hC); simp only [go_sem, pcells_st, cells_st, ST.tc, kd_st, tx_st, ch_st, encST_len]; ((with_reducible first | refine finA hC ?_ | refine finD hC ?_); clear hC C)) | (with_reducible first | refine awp_seq_k fun K hK => ?_ | refine awp_reg_k fun K hK => ?_ | refine awp_dreg_k fun K hK => ?_ | (refine aops_nil ?_; refine hK _ _ ?_; try clear hK K) | (refine aopsD_nil ?_; refine hK _ _ _ ?_ ?_; (focus kernel_rfl); try clear hK K) | (refine thn_normal ?_; refine hK _ _ ?_; try clear hK K) | refine catch_normal ?_ | refine awp_skip_k ?_ | refine awp_ret_k ?_ | refine awp_exit_k ?_ | refine awp_block_k ?_ | (refine thn_exit ?_; try clear hK K) | (refine thn_ret ?_; try clear hK K) | refine catch_ret ?_ | refine catch_exit ?_ | (refine catch_other ?_ ?_; focus decide)) | ((with_reducible first | apply aops_guard' | apply aopsD_guard' | apply awp_cond_g); focus (simp only [go_sem, pcells_st, cells_st, ST.tc, kd_st, tx_st, ch_st, encST_len]; exact rfl)) | (with_reducible first | refine gk_tt ?_ | refine gk_ff ?_ | refine ck_t ?_ | refine ck_f ?_) | ((with_reducible first | refine gk_tf ?_ | refine gk_ft ?_ | refine gk_u ?_ | refine gk_u' ?_); first | (intro _ e; (first | rw [put_some] at e | rw [put_none] at e); subst e) | (intro _ _ e e'; (first | rw [put_some] at e | rw [put_none] at e); subst e; subst e'))))
  refine awp_loop_k _ (LeB [0, 2] (by refine ⟨?_, ?_, ?_⟩ <;> simp only [leFr, leFb, leHp, V.ren, V.renL, V.bd, V.bdL, allL, lt, Go.Ab.get, hget, List.map_cons, List.map_nil, List.length_cons, List.length_nil, List.length_append, List.getElem?_cons_zero, List.getElem?_cons_succ, List.getElem?_nil, Option.join_some, Option.join_none, List.getD_cons_zero, List.getD_cons_succ, List.getD_nil, Nat.reduceAdd, Nat.reduceLT, Nat.reduceEqDiff, Nat.zero_add, reduceIte, if_true, if_false, and_true, true_and, renL_vcells, allL_vcells, renL_pv, leBlk_some, eq_self, true_or, or_true, reduceCtorEq, false_or, c0, allL, List.length_nil, renL_G, allL_G])) (firstC (t0 := some (m 0)) cs k x x.size hrec hrecN (by omega) (by omega) (insL ([] : List GN) cs [] x.size) rfl (fun e fr h0 h5 => hK _ _ (tailC _ _ _ h0 h5 trivial (by rw [← hR0 e]; exact he m))) (fun fr h0 h5 => hK _ _ (tailA _ _ _ _ _ h0 h5 (by omega) (by rw [← hR]; exact he m))))
theorem ins_ok : ∀ t : ST, InsR t ∧ InsN t
  | .mk k x cs =>
    have h : ∀ c ∈ cs, InsR c ∧ InsN c := fun c hc => ins_ok c
    ⟨insR_ok k x cs fun c hc => (h c hc).1, insN_ok k x cs (fun c hc => (h c hc).1) fun c hc => (h c hc).2⟩
termination_by t => SizeOf.sizeOf t
decreasing_by
  have := List.sizeOf_lt_of_mem hc
  simp only [ST.mk.sizeOf_spec]; omega
-- more
end Go.Proofs.Ytgphapkpoamcgaa
