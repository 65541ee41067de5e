/- A5: joined from O3. -/
import Derived.Test.YtgphapkpoamcgaaDoorFnP
import Derived.Test.YtgphapkpoamcgaaDoorA4
/- The reference's LineRunes: a loop over a string's letters. The compact texts of its parts were printed by a program of mine (wip/tools/PrintS.lean). -/
set_option maxRecDepth 100000
set_option linter.unusedSimpArgs false
set_option linter.unusedVariables false
namespace Go.Proofs.YtgphapkpoamcgaaDoor
open Go Go.Ab
def ac17_p1 : AC := .reg [⟨some 4, .mov (.const (.slice none 0 0)), none⟩]
def ac17_p2 : AC := .reg [⟨some 11, .mov (.tmp 1), none⟩,
 ⟨some 5, .mov (.tmp 11), none⟩]
def ac17_p3_l0 : AC := .seq
 (.seq
 (.reg [⟨some 12, .mov (.tmp 5), none⟩,
 ⟨some 13, .mov (.tmp 0), none⟩,
 ⟨some 14, .slen true (.tmp 13), none⟩,
 ⟨some 15, .bin .lss .int (.tmp 12) (.tmp 14), none⟩,
 ⟨some 16, .mov (.tmp 15), none⟩,
 ⟨some 17, .mov (.tmp 0), some (16, true)⟩,
 ⟨some 18, .mov (.tmp 5), some (16, true)⟩,
 ⟨some 19, .sindex (.tmp 17) (.tmp 18), some (16, true)⟩,
 ⟨some 20, .bin .neq .int (.tmp 19) (.const (.int .u8 10)), some (16, true)⟩,
 ⟨some 21, .pick (.tmp 16) (.tmp 20) (.const (.bool false)), none⟩])
 (.cond (.tmp 21)
 (.skip)
 (.exit 0)))
 (.block 1
 (.reg [⟨some 22, .mov (.tmp 5), none⟩,
 ⟨some 23, .bin .add .int (.tmp 22) (.const (.int .i64 1)), none⟩,
 ⟨some 5, .mov (.tmp 23), none⟩]))
def ac17_p3 : AC := .block 0
 (.loop ac17_p3_l0)
def ac17_p4 : AC := .reg [⟨some 6, .mov (.const (.slice none 0 0)), none⟩]
def ac17_a : List AOp := [⟨some 24, .mov (.tmp 0), none⟩,
 ⟨some 25, .mov (.tmp 1), none⟩,
 ⟨some 26, .mov (.tmp 5), none⟩,
 ⟨some 27, .sslice (.tmp 24) (some (.tmp 25)) (some (.tmp 26)), none⟩]
def ac17_b : List AOp := [⟨some 30, .ext (.tmp 29) 0, none⟩]
def ac17_r : AC := .seq
 (.cond (.tmp 30)
 (.skip)
 (.exit 2))
 (.block 3
 (.seq
 (.reg [⟨some 31, .ext (.tmp 29) 1, none⟩,
 ⟨some 32, .ext (.tmp 29) 2, none⟩,
 ⟨some 7, .mov (.tmp 31), none⟩,
 ⟨some 8, .mov (.tmp 32), none⟩])
 (.seq
 (.reg [⟨some 9, .mov (.const (.int .i64 1)), none⟩])
 (.seq
 (.seq
 (.reg [⟨some 33, .mov (.tmp 8), none⟩,
 ⟨some 34, .bin .gtr .int (.tmp 33) (.const (.int .i32 65535)), none⟩])
 (.cond (.tmp 34)
 (.reg [⟨some 9, .mov (.const (.int .i64 2)), none⟩])
 (.skip)))
 (.seq
 (.seq
 (.reg [⟨some 35, .mov (.tmp 6), none⟩,
 ⟨some 36, .slen false (.tmp 35), none⟩,
 ⟨some 37, .bin .gtr .int (.tmp 36) (.const (.int .i64 0)), none⟩])
 (.cond (.tmp 37)
 (.seq
 (.reg [⟨some 38, .mov (.tmp 6), none⟩,
 ⟨some 39, .mov (.tmp 6), none⟩,
 ⟨some 40, .slen false (.tmp 39), none⟩,
 ⟨some 41, .bin .sub .int (.tmp 40) (.const (.int .i64 1)), none⟩,
 ⟨some 42, .iaddr 3 (.tmp 38) (.tmp 41), none⟩,
 ⟨some 10, .mov (.tmp 42), none⟩])
 (.reg [⟨some 43, .mov (.tmp 10), none⟩,
 ⟨some 44, .mov (.tmp 1), none⟩,
 ⟨some 45, .mov (.tmp 7), none⟩,
 ⟨some 46, .bin .add .int (.tmp 44) (.tmp 45), none⟩,
 ⟨some 47, .mov (.tmp 10), none⟩,
 ⟨some 48, .nilc (.tmp 47), none⟩,
 ⟨some 49, .faddr 0 (.tmp 48), none⟩,
 ⟨some 50, .load false 1 (.tmp 49), none⟩,
 ⟨some 51, .bin .sub .int (.tmp 46) (.tmp 50), none⟩,
 ⟨some 52, .nilc (.tmp 43), none⟩,
 ⟨some 53, .faddr 1 (.tmp 52), none⟩,
 ⟨none, .store 1 (.tmp 53) (.tmp 51), none⟩]))
 (.skip)))
 (.reg [⟨some 54, .mov (.tmp 6), none⟩,
 ⟨some 55, .mov (.tmp 1), none⟩,
 ⟨some 56, .mov (.tmp 7), none⟩,
 ⟨some 57, .bin .add .int (.tmp 55) (.tmp 56), none⟩,
 ⟨some 58, .mov (.tmp 5), none⟩,
 ⟨some 59, .mov (.tmp 1), none⟩,
 ⟨some 60, .bin .sub .int (.tmp 58) (.tmp 59), none⟩,
 ⟨some 61, .mov (.tmp 7), none⟩,
 ⟨some 62, .bin .sub .int (.tmp 60) (.tmp 61), none⟩,
 ⟨some 63, .mov (.tmp 9), none⟩,
 ⟨some 64, .build [(.int .i64 0), (.int .i64 0), (.int .i64 0)] [(0, 1), (1, 1), (2, 1)] [(0, (.tmp 57)), (1, (.tmp 62)), (2, (.tmp 63))], none⟩,
 ⟨some 65, .bslice 43 3 [(.int .i64 0), (.int .i64 0), (.int .i64 0)] 1 [(0, (.tmp 64))], none⟩,
 ⟨some 66, .app 43 3 (.tmp 54) (.tmp 65), none⟩,
 ⟨some 6, .mov (.tmp 66), none⟩]))))))
def ac17_t : AC := .seq
 (.reg [⟨some 67, .mov (.tmp 6), none⟩,
 ⟨some 4, .mov (.tmp 67), none⟩])
 (.ret)
def cA : Code → Code
  | .seq a _ => a
  | c => c
def cB : Code → Code
  | .seq _ b => b
  | c => c
def cIn : Code → Code
  | .block _ a => a
  | .loop a => a
  | c => c
def cOps : Code → List Oper
  | .region _ ops _ => ops.toList
  | _ => []
def cId : Code → Nat
  | .region i _ _ => i
  | .block i _ => i
  | _ => 0
noncomputable def b17 : Code := Tryd.f17.body.getD .skip
noncomputable def b17_l : Code := cA (cB (cB (cB (cB b17))))
noncomputable def b17_t : Code := cB (cB (cB (cB (cB b17))))
noncomputable def b17_o : List Oper := cOps (cA b17_l)
noncomputable def b17_i : Code := cIn (cIn (cB b17_l))
noncomputable def b17_n : List Oper := cOps (cA b17_i)
theorem body17 : Tryd.f17.body = some (.seq (cA b17) (.seq (cA (cB b17)) (.seq (cA (cB (cB b17))) (.seq (cA (cB (cB (cB b17)))) (.seq
  (.seq (.region (cId (cA b17_l)) (b17_o.dropLast ++ [b17_o.getLastD default]).toArray false) (.block 2 (.loop (.seq (.region (cId (cA b17_i)) (b17_n.headD default :: b17_n.tail).toArray false) (cB b17_i))))) b17_t))))) := by kernel_rfl
theorem p17_1 : compCode Tryd.prog 68 (cA b17) = some ac17_p1 := by kernel_rfl
theorem p17_2 : compCode Tryd.prog 68 (cA (cB b17)) = some ac17_p2 := by kernel_rfl
theorem p17_3 : compCode Tryd.prog 68 (cA (cB (cB b17))) = some ac17_p3 := by kernel_rfl
theorem p17_4 : compCode Tryd.prog 68 (cA (cB (cB (cB b17)))) = some ac17_p4 := by kernel_rfl
theorem p17_t : compCode Tryd.prog 68 b17_t = some ac17_t := by kernel_rfl
theorem p17_r : compCode Tryd.prog 68 (cB b17_i) = some ac17_r := by kernel_rfl
theorem p17_a : compOps Tryd.prog 68 (b17_o.dropLast ++ [b17_o.getLastD default]) b17_o.dropLast = some ac17_a := by kernel_rfl
theorem p17_b : compOps Tryd.prog 68 (b17_n.headD default :: b17_n.tail) b17_n.tail = some ac17_b := by kernel_rfl
theorem r17_op : (b17_o.getLastD default).op = .range 9 (.tmp 27) := by kernel_rfl
theorem r17_dst : (b17_o.getLastD default).dst = some 28 := by kernel_rfl
theorem r17_g : (b17_o.getLastD default).guard = none := by kernel_rfl
theorem n17_op : (b17_n.headD default).op = .next (.tmp 28) true := by kernel_rfl
theorem n17_dst : (b17_n.headD default).dst = some 29 := by kernel_rfl
theorem n17_g : (b17_n.headD default).guard = none := by kernel_rfl
theorem res17 : compRes Tryd.prog Tryd.f17.results.toList = some [.tmp 4] := by kernel_rfl
abbrev q3 (a b c : Nat) : PV := .agg [ii a, ii b, ii c]
def RC (r : R3) : List V := [.pv (ii r.1), .pv (ii r.2.1), .pv (ii r.2.2)]
def encR (xs : List R3) : List PV := xs.map fun r => q3 r.1 r.2.1 r.2.2
theorem encR_len (xs : List R3) : (encR xs).length = xs.length := by simp [encR]
theorem encR_at (ts us : List R3) (t : R3) : (encR (ts ++ t :: us))[ts.length]? = some (q3 t.1 t.2.1 t.2.2) := by simp [encR]
theorem VwE_R {h : HF} {B : List Nat} : ∀ (xs : List R3), VwE h B 3 (xs.map RC) (encR xs)
  | [] => .nil _
  | x :: xs => .cons _ _ _ _ _ rfl (.cons _ _ _ _ (.pv _) (.cons _ _ _ _ (.pv _) (.cons _ _ _ _ (.pv _) .nil))) (VwE_R xs)
theorem row_R {h : HF} {B : List Nat} {b n : Nat} {fl ro : Bool} {ty : Nat} {xs : List R3} {tg : Option (Nat × Nat × Nat)} (hb : b ∈ B) (hk : h b = some ⟨ro, ty, 3, xs.map RC, tg⟩) (hn : n = xs.length) : Vw h B (.row b n fl) (.list 3 (encR xs)) :=
  row_view hb hk (by simp [hn]) (VwE_R xs)
theorem renL_R {ρ : Nat → Nat} (xs : List R3) : (xs.map RC).map (V.renL ρ) = xs.map RC := by
  rw [List.map_map]; exact List.map_congr_left fun p _ => rfl
theorem allL_R {S : Nat → Prop} (xs : List R3) : allL S (xs.map RC) = True := by
  simp only [allL_iff, eq_iff_iff, iff_true]
  intro cs hcs
  obtain ⟨p, _, rfl⟩ := List.mem_map.1 hcs
  simp [RC, V.bdL, V.bd]
/-- the list while the loop runs: the last one reaches to the line's end -/
def lastR (acc : List R3) (s e u : Nat) : List (List V) := (acc ++ [(s, e - s, u)]).map RC
theorem lastR_get (acc : List R3) (s e u : Nat) : (lastR acc s e u)[acc.length]? = some (RC (s, e - s, u)) := by
  unfold lastR; rw [List.map_append, List.getElem?_append_right (by simp)]; simp
theorem lastR_set (acc : List R3) (s e u : Nat) (y : List V) : (lastR acc s e u).set acc.length y = acc.map RC ++ [y] := by
  unfold lastR; rw [List.map_append, List.set_append_right _ _ (by simp)]; simp
theorem lastR_len (acc : List R3) (s e u : Nat) : (lastR acc s e u).length = acc.length + 1 := by simp [lastR]
theorem lastR_app (acc : List R3) (a b c s e u : Nat) : lastR (acc ++ [(a, b, c)]) s e u = acc.map RC ++ [[.pv (ii a), .pv (ii b), .pv (ii c)]] ++ [[.pv (ii s), .pv (ii (e - s : Nat)), .pv (ii u)]] := by
  unfold lastR; simp [RC]
theorem lastR_ren {ρ : Nat → Nat} (acc : List R3) (s e u : Nat) : (lastR acc s e u).map (V.renL ρ) = lastR acc s e u := renL_R _
theorem lastR_all {S : Nat → Prop} (acc : List R3) (s e u : Nat) : allL S (lastR acc s e u) = True := allL_R _
theorem c2x : ((2 : Nat) : Int) = 2 := rfl
theorem ren_itv {ρ : Nat → Nat} (k : Nat) : V.ren ρ (itv k) = itv k := rfl
theorem bd_itv {S : Nat → Prop} (k : Nat) : V.bd S (itv k) = True := by simp [itv, V.bd]
theorem nxt_some (x : List UInt8) (pos : Nat) (h : pos < x.length) : nxtV ⟨x.toArray⟩ pos = .pv (.tup [bb true, ii pos, .lit (.int .i32 ((dec (x.drop pos)).1 : Int))]) := by
  unfold nxtV; rw [if_pos (by rw [sb_size]; exact h), dec_drop x pos h]
theorem nxt_none (x : List UInt8) (pos : Nat) (h : ¬ pos < x.length) : nxtV ⟨x.toArray⟩ pos = .pv (.tup [bb false]) := by
  unfold nxtV; rw [if_neg (by rw [sb_size]; exact h)]
theorem nxtP_some (x : List UInt8) (pos : Nat) (h : pos < x.length) : nxtP ⟨x.toArray⟩ pos = pos + (dec (x.drop pos)).2 := by
  unfold nxtP; rw [if_pos (by rw [sb_size]; exact h), dec_drop x pos h]
theorem rns_step (n p : Nat) (y : List UInt8) (h : y ≠ []) : rns (n + 1) p y = (p, (dec y).2, un (dec y).1) :: rns n (p + (dec y).2) (y.drop (dec y).2) := by
  simp only [rns]; rw [if_neg h]
theorem un_t {r : Nat} (h : decide ((r : Int) > 65535) = true) : un r = 2 := by
  have := of_decide_eq_true h
  unfold un; rw [if_pos (by omega)]
theorem un_f {r : Nat} (h : decide ((r : Int) > 65535) = false) : un r = 1 := by
  have := of_decide_eq_false h
  unfold un; rw [if_neg (by omega)]
set_option maxHeartbeats 4000000 in
theorem lr_rows {K : Fr → Hp → Prop} {Q : Post} (x : List UInt8) (st k : Nat) (T : List R3) (hst : st ≤ 1048576) (hx : x.length ≤ 1048576)
    (hN : ∀ fr, Ab.get fr 6 = .row 0 T.length false → K fr [some ⟨false, 43, 3, T.map RC, none⟩]) : ∀ (n pos s u : Nat) (acc : List R3), x.length ≤ pos + n → pos ≤ x.length → st ≤ s → s < st + pos → acc.length ≤ pos →
      acc ++ (s, st + pos - s, u) :: rns n (st + pos) (x.drop pos) = T →
    sloopN (awp Tryd.prog (.seq (.reg ac17_b) ac17_r)) (catch_ 2 (thn K Q)) ⟨x.toArray⟩ k 28 29 pos (n + 1) [(28, itv k), (6, .row 0 (acc.length + 1) false), (5, .pv (ii (st + x.length : Nat))), (1, .pv (ii st))] [some ⟨false, 43, 3, lastR acc s (st + x.length) u, none⟩] := by
  have fin : ∀ (n pos s u : Nat) (acc : List R3), ¬ pos < x.length → pos ≤ x.length → acc ++ (s, st + pos - s, u) :: rns n (st + pos) (x.drop pos) = T →
      sloopN (awp Tryd.prog (.seq (.reg ac17_b) ac17_r)) (catch_ 2 (thn K Q)) ⟨x.toArray⟩ k 28 29 pos (n + 1) [(28, itv k), (6, .row 0 (acc.length + 1) false), (5, .pv (ii (st + x.length : Nat))), (1, .pv (ii st))] [some ⟨false, 43, 3, lastR acc s (st + x.length) u, none⟩] := by
    intro n pos s u acc h1 h2 he
    have hp : pos = x.length := by omega
    have hr : rns n (st + pos) (x.drop pos) = [] := by
      rw [hp, List.drop_length]; cases n <;> simp [rns]
    rw [hr, hp] at he
    have e1 : T.length = acc.length + 1 := by rw [← he]; simp
    have e2 : lastR acc s (st + x.length) u = T.map RC := by rw [← he]; rfl
    rw [e1] at hN
    refine ⟨rfl, ?_⟩
    rw [nxt_none x pos h1, put_some, e2]
    unfold ac17_b ac17_r
    (repeat' (first | ((with_reducible first | refine aops_cons' fun C hC => ?_ | refine aopsD_cons' fun C hC => ?_ | intro C hC); simp only [go_sem]; ((with_reducible first | refine finA hC ?_ | refine finD hC ?_); clear hC C)) | (with_reducible first | refine awp_seq_k fun K hK => ?_ | refine awp_reg_k fun K hK => ?_ | refine awp_dreg_k fun K hK => ?_ | (refine aops_nil ?_; refine hK _ _ ?_; try clear hK K) | (refine aopsD_nil ?_; refine hK _ _ _ ?_ ?_; (focus kernel_rfl); try clear hK K) | (refine thn_normal ?_; refine hK _ _ ?_; try clear hK K) | refine catch_normal ?_ | refine awp_skip_k ?_ | refine awp_ret_k ?_ | refine awp_exit_k ?_ | refine awp_block_k ?_ | (refine thn_exit ?_; try clear hK K) | (refine thn_ret ?_; try clear hK K) | refine catch_ret ?_ | refine catch_exit ?_ | (refine catch_other ?_ ?_; focus decide)) | ((with_reducible first | apply aops_guard' | apply aopsD_guard' | apply awp_cond_g); focus (simp only [go_sem]; exact rfl)) | (with_reducible first | refine gk_tt ?_ | refine gk_ff ?_ | refine ck_t ?_ | refine ck_f ?_) | ((with_reducible first | refine gk_tf ?_ | refine gk_ft ?_ | refine gk_u ?_ | refine gk_u' ?_); first | (intro _ e; (first | rw [put_some] at e | rw [put_none] at e); subst e) | (intro _ _ e e'; (first | rw [put_some] at e | rw [put_none] at e); subst e; subst e'))))
    exact hN _ rfl
  intro n
  induction n with
  | zero =>
    intro pos s u acc h1 h2 h3 h4 h5 he
    exact fin 0 pos s u acc (by omega) h2 he
  | succ n ih =>
    intro pos s u acc h1 h2 h3 h4 h5 he
    by_cases hp : pos < x.length
    · have hne : x.drop pos ≠ [] := fun h => by have := List.drop_eq_nil_iff.1 h; omega
      have hd1 := dec_pos hne
      have hd2 := dec_le (x.drop pos)
      rw [List.length_drop] at hd2
      rw [rns_step _ _ _ hne, List.drop_drop] at he
      have hnp := nxtP_some x pos hp
      have hw1 : IntKind.i64.wrap (((acc.length + 1 : Nat) : Int) - 1) = (acc.length : Int) := wrapP (by omega)
      have hgt : decide (((acc.length + 1 : Nat) : Int) > 0) = true := decide_eq_true (by omega)
      have hw2 : IntKind.i64.wrap ((st : Int) + (pos : Int)) = ((st + pos : Nat) : Int) := by rw [wrapR (by omega) (by omega)]; omega
      have hw3 : IntKind.i64.wrap (((st + pos : Nat) : Int) - (s : Int)) = ((st + pos - s : Nat) : Int) := by rw [wrapR (by omega) (by omega)]; omega
      have hw4 : IntKind.i64.wrap (((st + x.length : Nat) : Int) - (st : Int)) = (x.length : Int) := by rw [wrapR (by omega) (by omega)]; omega
      have hw5 : IntKind.i64.wrap ((x.length : Int) - (pos : Int)) = ((st + x.length - (st + pos) : Nat) : Int) := by rw [wrapR (by omega) (by omega)]; omega
      have hlt : acc.length < acc.length + 1 := Nat.lt_succ_self _
      have hub : acc.length + 1 + 1 ≤ big := by unfold big; omega
      have ihn := ih (pos + (dec (x.drop pos)).2) (st + pos) (un (dec (x.drop pos)).1) (acc ++ [(s, st + pos - s, u)]) (by omega) (by omega) (by omega) (by omega) (by simp; omega)
        (by rw [← he]; rw [List.append_assoc, show st + (pos + (dec (x.drop pos)).2) - (st + pos) = (dec (x.drop pos)).2 by omega, Nat.add_assoc]; rfl)
      refine ⟨rfl, ?_⟩
      rw [nxt_some x pos hp, put_some, hnp]
      clear ih fin he hN
      generalize (dec (x.drop pos)).1 = r at *
      generalize (dec (x.drop pos)).2 = w at *
      unfold ac17_b ac17_r
      cases hu : decide ((r : Int) > 65535) with
      | true =>
        rw [un_t hu] at ihn
        (repeat' (first | ((with_reducible first | refine aops_cons' fun C hC => ?_ | refine aopsD_cons' fun C hC => ?_ | intro C hC); simp only [go_sem, hu, hgt, hw1, hw2, hw3, hw4, hw5, hlt, hub, lastR_get, lastR_set, lastR_len, RC, spl, List.length_append, List.length_map]; ((with_reducible first | refine finA hC ?_ | refine finD hC ?_); clear hC C)) | (with_reducible first | refine awp_seq_k fun K hK => ?_ | refine awp_reg_k fun K hK => ?_ | refine awp_dreg_k fun K hK => ?_ | (refine aops_nil ?_; refine hK _ _ ?_; try clear hK K) | (refine aopsD_nil ?_; refine hK _ _ _ ?_ ?_; (focus kernel_rfl); try clear hK K) | (refine thn_normal ?_; refine hK _ _ ?_; try clear hK K) | refine catch_normal ?_ | refine awp_skip_k ?_ | refine awp_ret_k ?_ | refine awp_exit_k ?_ | refine awp_block_k ?_ | (refine thn_exit ?_; try clear hK K) | (refine thn_ret ?_; try clear hK K) | refine catch_ret ?_ | refine catch_exit ?_ | (refine catch_other ?_ ?_; focus decide)) | ((with_reducible first | apply aops_guard' | apply aopsD_guard' | apply awp_cond_g); focus (simp only [go_sem, hu, hgt, hw1, hw2, hw3, hw4, hw5, hlt, hub, lastR_get, lastR_set, lastR_len, RC, spl, List.length_append, List.length_map]; exact rfl)) | (with_reducible first | refine gk_tt ?_ | refine gk_ff ?_ | refine ck_t ?_ | refine ck_f ?_) | ((with_reducible first | refine gk_tf ?_ | refine gk_ft ?_ | refine gk_u ?_ | refine gk_u' ?_); first | (intro _ e; (first | rw [put_some] at e | rw [put_none] at e); subst e) | (intro _ _ e e'; (first | rw [put_some] at e | rw [put_none] at e); subst e; subst e'))))
        refine thn_normal ?_
        refine ⟨_, _, _, (LeB [2] (by refine ⟨?_, ?_, ?_⟩ <;> simp only [leFr, leFb, leHp, V.ren, V.renL, V.bd, V.bdL, allL, lt, Go.Ab.get, hget, List.map_cons, List.map_nil, List.length_cons, List.length_nil, List.length_append, List.getElem?_cons_zero, List.getElem?_cons_succ, List.getElem?_nil, Option.join_some, Option.join_none, List.getD_cons_zero, List.getD_cons_succ, List.getD_nil, Nat.reduceAdd, Nat.reduceLT, Nat.reduceEqDiff, Nat.zero_add, reduceIte, if_true, if_false, and_true, true_and, renL_vcells, allL_vcells, renL_pv, leBlk_some, eq_self, true_or, or_true, reduceCtorEq, false_or, ren_itv, bd_itv, lastR_app, List.map_append, List.map_cons, List.map_nil, renL_R, allL_R, allL, allL_app, c1x, c2x])), ihn⟩
      | false =>
        rw [un_f hu] at ihn
        (repeat' (first | ((with_reducible first | refine aops_cons' fun C hC => ?_ | refine aopsD_cons' fun C hC => ?_ | intro C hC); simp only [go_sem, hu, hgt, hw1, hw2, hw3, hw4, hw5, hlt, hub, lastR_get, lastR_set, lastR_len, RC, spl, List.length_append, List.length_map]; ((with_reducible first | refine finA hC ?_ | refine finD hC ?_); clear hC C)) | (with_reducible first | refine awp_seq_k fun K hK => ?_ | refine awp_reg_k fun K hK => ?_ | refine awp_dreg_k fun K hK => ?_ | (refine aops_nil ?_; refine hK _ _ ?_; try clear hK K) | (refine aopsD_nil ?_; refine hK _ _ _ ?_ ?_; (focus kernel_rfl); try clear hK K) | (refine thn_normal ?_; refine hK _ _ ?_; try clear hK K) | refine catch_normal ?_ | refine awp_skip_k ?_ | refine awp_ret_k ?_ | refine awp_exit_k ?_ | refine awp_block_k ?_ | (refine thn_exit ?_; try clear hK K) | (refine thn_ret ?_; try clear hK K) | refine catch_ret ?_ | refine catch_exit ?_ | (refine catch_other ?_ ?_; focus decide)) | ((with_reducible first | apply aops_guard' | apply aopsD_guard' | apply awp_cond_g); focus (simp only [go_sem, hu, hgt, hw1, hw2, hw3, hw4, hw5, hlt, hub, lastR_get, lastR_set, lastR_len, RC, spl, List.length_append, List.length_map]; exact rfl)) | (with_reducible first | refine gk_tt ?_ | refine gk_ff ?_ | refine ck_t ?_ | refine ck_f ?_) | ((with_reducible first | refine gk_tf ?_ | refine gk_ft ?_ | refine gk_u ?_ | refine gk_u' ?_); first | (intro _ e; (first | rw [put_some] at e | rw [put_none] at e); subst e) | (intro _ _ e e'; (first | rw [put_some] at e | rw [put_none] at e); subst e; subst e'))))
        refine thn_normal ?_
        refine ⟨_, _, _, (LeB [2] (by refine ⟨?_, ?_, ?_⟩ <;> simp only [leFr, leFb, leHp, V.ren, V.renL, V.bd, V.bdL, allL, lt, Go.Ab.get, hget, List.map_cons, List.map_nil, List.length_cons, List.length_nil, List.length_append, List.getElem?_cons_zero, List.getElem?_cons_succ, List.getElem?_nil, Option.join_some, Option.join_none, List.getD_cons_zero, List.getD_cons_succ, List.getD_nil, Nat.reduceAdd, Nat.reduceLT, Nat.reduceEqDiff, Nat.zero_add, reduceIte, if_true, if_false, and_true, true_and, renL_vcells, allL_vcells, renL_pv, leBlk_some, eq_self, true_or, or_true, reduceCtorEq, false_or, ren_itv, bd_itv, lastR_app, List.map_append, List.map_cons, List.map_nil, renL_R, allL_R, allL, allL_app, c1x, c2x])), ihn⟩
    · exact fin (n + 1) pos s u acc hp h2 he
set_option maxHeartbeats 4000000 in
theorem lr_first {K : Fr → Hp → Prop} {Q : Post} (x : List UInt8) (st k : Nat) (T : List R3) (hst : st ≤ 1048576) (hx : x.length ≤ 1048576) (hT : rns x.length st x = T)
    (hN0 : T = [] → ∀ fr, Ab.get fr 6 = .pv (.lit (.slice none 0 0)) → K fr []) (hN : ∀ fr, Ab.get fr 6 = .row 0 T.length false → K fr [some ⟨false, 43, 3, T.map RC, none⟩]) :
    ∃ n, sloopN (awp Tryd.prog (.seq (.reg ac17_b) ac17_r)) (catch_ 2 (thn K Q)) ⟨x.toArray⟩ k 28 29 0 n [(28, itv k), (6, .pv (.lit (.slice none 0 0))), (5, .pv (ii (st + x.length : Nat))), (1, .pv (ii st))] [] := by
  cases hxl : x.length with
  | zero =>
    have hx0 : x = [] := List.length_eq_zero_iff.1 hxl
    subst hx0
    refine ⟨1, rfl, ?_⟩
    rw [nxt_none [] 0 (by simp), put_some]
    unfold ac17_b ac17_r
    (repeat' (first | ((with_reducible first | refine aops_cons' fun C hC => ?_ | refine aopsD_cons' fun C hC => ?_ | intro C hC); simp only [go_sem]; ((with_reducible first | refine finA hC ?_ | refine finD hC ?_); clear hC C)) | (with_reducible first | refine awp_seq_k fun K hK => ?_ | refine awp_reg_k fun K hK => ?_ | refine awp_dreg_k fun K hK => ?_ | (refine aops_nil ?_; refine hK _ _ ?_; try clear hK K) | (refine aopsD_nil ?_; refine hK _ _ _ ?_ ?_; (focus kernel_rfl); try clear hK K) | (refine thn_normal ?_; refine hK _ _ ?_; try clear hK K) | refine catch_normal ?_ | refine awp_skip_k ?_ | refine awp_ret_k ?_ | refine awp_exit_k ?_ | refine awp_block_k ?_ | (refine thn_exit ?_; try clear hK K) | (refine thn_ret ?_; try clear hK K) | refine catch_ret ?_ | refine catch_exit ?_ | (refine catch_other ?_ ?_; focus decide)) | ((with_reducible first | apply aops_guard' | apply aopsD_guard' | apply awp_cond_g); focus (simp only [go_sem]; exact rfl)) | (with_reducible first | refine gk_tt ?_ | refine gk_ff ?_ | refine ck_t ?_ | refine ck_f ?_) | ((with_reducible first | refine gk_tf ?_ | refine gk_ft ?_ | refine gk_u ?_ | refine gk_u' ?_); first | (intro _ e; (first | rw [put_some] at e | rw [put_none] at e); subst e) | (intro _ _ e e'; (first | rw [put_some] at e | rw [put_none] at e); subst e; subst e'))))
    exact hN0 hT.symm _ rfl
  | succ m =>
    have hp : 0 < x.length := by omega
    have hne : x ≠ [] := List.length_pos_iff.1 hp
    have hd1 := dec_pos hne
    have hd2 := dec_le x
    rw [hxl, rns_step _ _ _ hne] at hT
    have hnp := nxtP_some x 0 hp
    rw [List.drop_zero, Nat.zero_add] at hnp
    have hw2 : IntKind.i64.wrap ((st : Int) + 0) = ((st : Nat) : Int) := by rw [wrapR (by omega) (by omega)]; omega
    have hw4 : IntKind.i64.wrap (((st + (m + 1) : Nat) : Int) - (st : Int)) = ((m + 1 : Nat) : Int) := by rw [wrapR (by omega) (by omega)]; omega
    have hw5 : IntKind.i64.wrap (((m + 1 : Nat) : Int) - 0) = ((m + 1 : Nat) : Int) := by rw [wrapR (by omega) (by omega)]; omega
    have hub : 0 + 1 ≤ big := by unfold big; omega
    have ihn := lr_rows (K := K) (Q := Q) x st k T hst hx hN m (dec x).2 st (un (dec x).1) [] (by omega) hd2 (Nat.le_refl _) (by omega) (by simp)
        (by rw [← hT, List.nil_append, show st + (dec x).2 - st = (dec x).2 by omega])
    rw [hxl] at ihn
    refine ⟨m + 2, rfl, ?_⟩
    rw [nxt_some x 0 hp, put_some, hnp, List.drop_zero]
    have hge : decide ((0 : Int) > 0) = false := by decide
    have e0 : st + (m + 1) - st = m + 1 := by omega
    clear hN0 hN hT
    generalize (dec x).1 = r at *
    generalize (dec x).2 = w at *
    unfold ac17_b ac17_r
    cases hu : decide ((r : Int) > 65535) with
    | true =>
      rw [un_t hu] at ihn
      (repeat' (first | ((with_reducible first | refine aops_cons' fun C hC => ?_ | refine aopsD_cons' fun C hC => ?_ | intro C hC); simp only [go_sem, hu, hge, c0, hw2, hw4, hw5, hub, RC, List.length_append, List.length_map]; ((with_reducible first | refine finA hC ?_ | refine finD hC ?_); clear hC C)) | (with_reducible first | refine awp_seq_k fun K hK => ?_ | refine awp_reg_k fun K hK => ?_ | refine awp_dreg_k fun K hK => ?_ | (refine aops_nil ?_; refine hK _ _ ?_; try clear hK K) | (refine aopsD_nil ?_; refine hK _ _ _ ?_ ?_; (focus kernel_rfl); try clear hK K) | (refine thn_normal ?_; refine hK _ _ ?_; try clear hK K) | refine catch_normal ?_ | refine awp_skip_k ?_ | refine awp_ret_k ?_ | refine awp_exit_k ?_ | refine awp_block_k ?_ | (refine thn_exit ?_; try clear hK K) | (refine thn_ret ?_; try clear hK K) | refine catch_ret ?_ | refine catch_exit ?_ | (refine catch_other ?_ ?_; focus decide)) | ((with_reducible first | apply aops_guard' | apply aopsD_guard' | apply awp_cond_g); focus (simp only [go_sem, hu, hge, c0, hw2, hw4, hw5, hub, RC, List.length_append, List.length_map]; exact rfl)) | (with_reducible first | refine gk_tt ?_ | refine gk_ff ?_ | refine ck_t ?_ | refine ck_f ?_) | ((with_reducible first | refine gk_tf ?_ | refine gk_ft ?_ | refine gk_u ?_ | refine gk_u' ?_); first | (intro _ e; (first | rw [put_some] at e | rw [put_none] at e); subst e) | (intro _ _ e e'; (first | rw [put_some] at e | rw [put_none] at e); subst e; subst e'))))
      refine thn_normal ?_
      refine ⟨_, _, _, (LeB [1] (by refine ⟨?_, ?_, ?_⟩ <;> simp only [leFr, leFb, leHp, V.ren, V.renL, V.bd, V.bdL, allL, lt, Go.Ab.get, hget, List.map_cons, List.map_nil, List.length_cons, List.length_nil, List.length_append, List.getElem?_cons_zero, List.getElem?_cons_succ, List.getElem?_nil, Option.join_some, Option.join_none, List.getD_cons_zero, List.getD_cons_succ, List.getD_nil, Nat.reduceAdd, Nat.reduceLT, Nat.reduceEqDiff, Nat.zero_add, reduceIte, if_true, if_false, and_true, true_and, renL_vcells, allL_vcells, renL_pv, leBlk_some, eq_self, true_or, or_true, reduceCtorEq, false_or, ren_itv, bd_itv, lastR, List.nil_append, RC, List.length_nil, e0, List.map_append, List.map_cons, List.map_nil, renL_R, allL_R, allL, allL_app, c1x, c2x])), ihn⟩
    | false =>
      rw [un_f hu] at ihn
      (repeat' (first | ((with_reducible first | refine aops_cons' fun C hC => ?_ | refine aopsD_cons' fun C hC => ?_ | intro C hC); simp only [go_sem, hu, hge, c0, hw2, hw4, hw5, hub, RC, List.length_append, List.length_map]; ((with_reducible first | refine finA hC ?_ | refine finD hC ?_); clear hC C)) | (with_reducible first | refine awp_seq_k fun K hK => ?_ | refine awp_reg_k fun K hK => ?_ | refine awp_dreg_k fun K hK => ?_ | (refine aops_nil ?_; refine hK _ _ ?_; try clear hK K) | (refine aopsD_nil ?_; refine hK _ _ _ ?_ ?_; (focus kernel_rfl); try clear hK K) | (refine thn_normal ?_; refine hK _ _ ?_; try clear hK K) | refine catch_normal ?_ | refine awp_skip_k ?_ | refine awp_ret_k ?_ | refine awp_exit_k ?_ | refine awp_block_k ?_ | (refine thn_exit ?_; try clear hK K) | (refine thn_ret ?_; try clear hK K) | refine catch_ret ?_ | refine catch_exit ?_ | (refine catch_other ?_ ?_; focus decide)) | ((with_reducible first | apply aops_guard' | apply aopsD_guard' | apply awp_cond_g); focus (simp only [go_sem, hu, hge, c0, hw2, hw4, hw5, hub, RC, List.length_append, List.length_map]; exact rfl)) | (with_reducible first | refine gk_tt ?_ | refine gk_ff ?_ | refine ck_t ?_ | refine ck_f ?_) | ((with_reducible first | refine gk_tf ?_ | refine gk_ft ?_ | refine gk_u ?_ | refine gk_u' ?_); first | (intro _ e; (first | rw [put_some] at e | rw [put_none] at e); subst e) | (intro _ _ e e'; (first | rw [put_some] at e | rw [put_none] at e); subst e; subst e'))))
      refine thn_normal ?_
      refine ⟨_, _, _, (LeB [1] (by refine ⟨?_, ?_, ?_⟩ <;> simp only [leFr, leFb, leHp, V.ren, V.renL, V.bd, V.bdL, allL, lt, Go.Ab.get, hget, List.map_cons, List.map_nil, List.length_cons, List.length_nil, List.length_append, List.getElem?_cons_zero, List.getElem?_cons_succ, List.getElem?_nil, Option.join_some, Option.join_none, List.getD_cons_zero, List.getD_cons_succ, List.getD_nil, Nat.reduceAdd, Nat.reduceLT, Nat.reduceEqDiff, Nat.zero_add, reduceIte, if_true, if_false, and_true, true_and, renL_vcells, allL_vcells, renL_pv, leBlk_some, eq_self, true_or, or_true, reduceCtorEq, false_or, ren_itv, bd_itv, lastR, List.nil_append, RC, List.length_nil, e0, List.map_append, List.map_cons, List.map_nil, renL_R, allL_R, allL, allL_app, c1x, c2x])), ihn⟩
set_option maxHeartbeats 4000000 in
theorem lr_end {K : Fr → Hp → Prop} {Q : Post} (l : List UInt8) (st : Nat) (E : Nat) (hl : l.length ≤ 1048576) (hN : ∀ ρ fr H, Le ρ fr H [(5, .pv (ii E)), (1, .pv (ii st)), (0, .pv (sb l))] [] → K fr H) : ∀ (rest pre : List UInt8), pre ++ rest = l → pre.length + runL lnC rest = E →
    loopN (awp Tryd.prog ac17_p3_l0) (catch_ 0 (thn K Q)) (rest.length + 1) [(5, .pv (ii pre.length)), (1, .pv (ii st)), (0, .pv (sb l))] [] := by
  intro rest
  induction rest with
  | nil =>
    intro pre hpre hr
    have hpre : pre = l := by simpa using hpre
    have hlt : decide ((pre.length : Int) < (l.length : Int)) = false := by rw [hpre]; exact lt_end _
    simp only [runL, Nat.add_zero] at hr
    subst hr
    refine loopN_k fun K1 hK1 => ?_
    unfold ac17_p3_l0
    (repeat' (first | ((with_reducible first | refine aops_cons' fun C hC => ?_ | refine aopsD_cons' fun C hC => ?_ | intro C hC); simp only [go_sem, hlt, sb_size]; ((with_reducible first | refine finA hC ?_ | refine finD hC ?_); clear hC C)) | (with_reducible first | refine awp_seq_k fun K hK => ?_ | refine awp_reg_k fun K hK => ?_ | refine awp_dreg_k fun K hK => ?_ | (refine aops_nil ?_; refine hK _ _ ?_; try clear hK K) | (refine aopsD_nil ?_; refine hK _ _ _ ?_ ?_; (focus kernel_rfl); try clear hK K) | (refine thn_normal ?_; refine hK _ _ ?_; try clear hK K) | refine catch_normal ?_ | refine awp_skip_k ?_ | refine awp_ret_k ?_ | refine awp_exit_k ?_ | refine awp_block_k ?_ | (refine thn_exit ?_; try clear hK K) | (refine thn_ret ?_; try clear hK K) | refine catch_ret ?_ | refine catch_exit ?_ | (refine catch_other ?_ ?_; focus decide)) | ((with_reducible first | apply aops_guard' | apply aopsD_guard' | apply awp_cond_g); focus (simp only [go_sem, hlt, sb_size]; exact rfl)) | (with_reducible first | refine gk_tt ?_ | refine gk_ff ?_ | refine ck_t ?_ | refine ck_f ?_) | ((with_reducible first | refine gk_tf ?_ | refine gk_ft ?_ | refine gk_u ?_ | refine gk_u' ?_); first | (intro _ e; (first | rw [put_some] at e | rw [put_none] at e); subst e) | (intro _ _ e e'; (first | rw [put_some] at e | rw [put_none] at e); subst e; subst e'))))
    exact hN _ _ _ (LeB [] (by refine ⟨?_, ?_, ?_⟩ <;> simp only [leFr, leFb, leHp, V.ren, V.renL, V.bd, V.bdL, allL, lt, Go.Ab.get, hget, List.map_cons, List.map_nil, List.length_cons, List.length_nil, List.length_append, List.getElem?_cons_zero, List.getElem?_cons_succ, List.getElem?_nil, Option.join_some, Option.join_none, List.getD_cons_zero, List.getD_cons_succ, List.getD_nil, Nat.reduceAdd, Nat.reduceLT, Nat.reduceEqDiff, Nat.zero_add, reduceIte, if_true, if_false, and_true, true_and, renL_vcells, allL_vcells, renL_pv, leBlk_some, eq_self, true_or, or_true, reduceCtorEq, false_or]))
  | cons c rest ih =>
    intro pre hpre hr
    have hlt : decide ((pre.length : Int) < (l.length : Int)) = true := by rw [← hpre]; exact lt_app _ _ _
    have hk1 : pre.length < l.length := by rw [← hpre]; simp
    have hg : l.getD pre.length 0 = c := by rw [← hpre]; exact getD_mid _ _ _
    have hw := wrapS (n := pre.length) (by omega)
    refine loopN_k fun K1 hK1 => ?_
    unfold ac17_p3_l0
    have hcc : ((c.toNat : Int) != 10) = lnC c := rfl
    cases hpc : lnC c with
    | false =>
      rw [hpc] at hcc
      simp only [runL, hpc, Bool.false_eq_true, if_false, Nat.add_zero] at hr
      subst hr
      (repeat' (first | ((with_reducible first | refine aops_cons' fun C hC => ?_ | refine aopsD_cons' fun C hC => ?_ | intro C hC); simp only [go_sem, hlt, sb_size, sb_at, hk1, hg, hcc]; ((with_reducible first | refine finA hC ?_ | refine finD hC ?_); clear hC C)) | (with_reducible first | refine awp_seq_k fun K hK => ?_ | refine awp_reg_k fun K hK => ?_ | refine awp_dreg_k fun K hK => ?_ | (refine aops_nil ?_; refine hK _ _ ?_; try clear hK K) | (refine aopsD_nil ?_; refine hK _ _ _ ?_ ?_; (focus kernel_rfl); try clear hK K) | (refine thn_normal ?_; refine hK _ _ ?_; try clear hK K) | refine catch_normal ?_ | refine awp_skip_k ?_ | refine awp_ret_k ?_ | refine awp_exit_k ?_ | refine awp_block_k ?_ | (refine thn_exit ?_; try clear hK K) | (refine thn_ret ?_; try clear hK K) | refine catch_ret ?_ | refine catch_exit ?_ | (refine catch_other ?_ ?_; focus decide)) | ((with_reducible first | apply aops_guard' | apply aopsD_guard' | apply awp_cond_g); focus (simp only [go_sem, hlt, sb_size, sb_at, hk1, hg, hcc]; exact rfl)) | (with_reducible first | refine gk_tt ?_ | refine gk_ff ?_ | refine ck_t ?_ | refine ck_f ?_) | ((with_reducible first | refine gk_tf ?_ | refine gk_ft ?_ | refine gk_u ?_ | refine gk_u' ?_); first | (intro _ e; (first | rw [put_some] at e | rw [put_none] at e); subst e) | (intro _ _ e e'; (first | rw [put_some] at e | rw [put_none] at e); subst e; subst e'))))
      exact hN _ _ _ (LeB [] (by refine ⟨?_, ?_, ?_⟩ <;> simp only [leFr, leFb, leHp, V.ren, V.renL, V.bd, V.bdL, allL, lt, Go.Ab.get, hget, List.map_cons, List.map_nil, List.length_cons, List.length_nil, List.length_append, List.getElem?_cons_zero, List.getElem?_cons_succ, List.getElem?_nil, Option.join_some, Option.join_none, List.getD_cons_zero, List.getD_cons_succ, List.getD_nil, Nat.reduceAdd, Nat.reduceLT, Nat.reduceEqDiff, Nat.zero_add, reduceIte, if_true, if_false, and_true, true_and, renL_vcells, allL_vcells, renL_pv, leBlk_some, eq_self, true_or, or_true, reduceCtorEq, false_or]))
    | true =>
      rw [hpc] at hcc
      simp only [runL, hpc, if_true] at hr
      (repeat' (first | ((with_reducible first | refine aops_cons' fun C hC => ?_ | refine aopsD_cons' fun C hC => ?_ | intro C hC); simp only [go_sem, hlt, sb_size, sb_at, hk1, hg, hcc]; ((with_reducible first | refine finA hC ?_ | refine finD hC ?_); clear hC C)) | (with_reducible first | refine awp_seq_k fun K hK => ?_ | refine awp_reg_k fun K hK => ?_ | refine awp_dreg_k fun K hK => ?_ | (refine aops_nil ?_; refine hK _ _ ?_; try clear hK K) | (refine aopsD_nil ?_; refine hK _ _ _ ?_ ?_; (focus kernel_rfl); try clear hK K) | (refine thn_normal ?_; refine hK _ _ ?_; try clear hK K) | refine catch_normal ?_ | refine awp_skip_k ?_ | refine awp_ret_k ?_ | refine awp_exit_k ?_ | refine awp_block_k ?_ | (refine thn_exit ?_; try clear hK K) | (refine thn_ret ?_; try clear hK K) | refine catch_ret ?_ | refine catch_exit ?_ | (refine catch_other ?_ ?_; focus decide)) | ((with_reducible first | apply aops_guard' | apply aopsD_guard' | apply awp_cond_g); focus (simp only [go_sem, hlt, sb_size, sb_at, hk1, hg, hcc]; exact rfl)) | (with_reducible first | refine gk_tt ?_ | refine gk_ff ?_ | refine ck_t ?_ | refine ck_f ?_) | ((with_reducible first | refine gk_tf ?_ | refine gk_ft ?_ | refine gk_u ?_ | refine gk_u' ?_); first | (intro _ e; (first | rw [put_some] at e | rw [put_none] at e); subst e) | (intro _ _ e e'; (first | rw [put_some] at e | rw [put_none] at e); subst e; subst e'))))
      refine thn_normal ?_
      refine hK1 _ _ _ _ _ (LeB [] (by refine ⟨?_, ?_, ?_⟩ <;> simp only [leFr, leFb, leHp, V.ren, V.renL, V.bd, V.bdL, allL, lt, Go.Ab.get, hget, List.map_cons, List.map_nil, List.length_cons, List.length_nil, List.length_append, List.getElem?_cons_zero, List.getElem?_cons_succ, List.getElem?_nil, Option.join_some, Option.join_none, List.getD_cons_zero, List.getD_cons_succ, List.getD_nil, Nat.reduceAdd, Nat.reduceLT, Nat.reduceEqDiff, Nat.zero_add, reduceIte, if_true, if_false, and_true, true_and, renL_vcells, allL_vcells, renL_pv, leBlk_some, eq_self, true_or, or_true, reduceCtorEq, false_or, hw, List.length_append])) (ih (pre ++ [c]) (by simp [hpre]) (by simp; omega))
theorem AWp.le {P : Program} {N : Nat} {c : Code} {Q : Post} {ρ : Nat → Nat} {fr fr' : Fr} {H H' : Hp} (hle : Le ρ fr H fr' H') (h : AWp P N c Q fr' H') : AWp P N c Q fr H := by
  intro G a w st
  obtain ⟨G1, st1, tr1⟩ := st.le hle
  exact wp_mono (h G1 a w st1) fun e a' w' ⟨G2, fr2, H2, q, st2, tr2⟩ => ⟨G2, fr2, H2, q, st2, tr1.trans tr2⟩
set_option maxHeartbeats 4000000 in
theorem lr_ok (l : List UInt8) (st : Nat) (h : st ≤ l.length) (hl : l.length ≤ 1048576) : PCall Tryd.prog 17 [sb l, ii st] (.list 3 (encR (lnRunes l st))) := by
  generalize hT : lnRunes l st = T
  refine PCall.introA (N := 68) (ps := [.list 3 (encR T)]) Tryd.func17 body17 rfl (by kernel_rfl) res17 (by simp) ?_
  simp only [argFr]
  refine awp_seq (awp_sound mixedP _ _ p17_1 _ _ _ ?_)
  unfold ac17_p1
  (repeat' (first | ((with_reducible first | refine aops_cons' fun C hC => ?_ | refine aopsD_cons' fun C hC => ?_ | intro C hC); simp only [go_sem]; ((with_reducible first | refine finA hC ?_ | refine finD hC ?_); clear hC C)) | (with_reducible first | refine awp_seq_k fun K hK => ?_ | refine awp_reg_k fun K hK => ?_ | refine awp_dreg_k fun K hK => ?_ | (refine aops_nil ?_; refine hK _ _ ?_; try clear hK K) | (refine aopsD_nil ?_; refine hK _ _ _ ?_ ?_; (focus kernel_rfl); try clear hK K) | (refine thn_normal ?_; refine hK _ _ ?_; try clear hK K) | refine catch_normal ?_ | refine awp_skip_k ?_ | refine awp_ret_k ?_ | refine awp_exit_k ?_ | refine awp_block_k ?_ | (refine thn_exit ?_; try clear hK K) | (refine thn_ret ?_; try clear hK K) | refine catch_ret ?_ | refine catch_exit ?_ | (refine catch_other ?_ ?_; focus decide)) | ((with_reducible first | apply aops_guard' | apply aopsD_guard' | apply awp_cond_g); focus (simp only [go_sem]; exact rfl)) | (with_reducible first | refine gk_tt ?_ | refine gk_ff ?_ | refine ck_t ?_ | refine ck_f ?_) | ((with_reducible first | refine gk_tf ?_ | refine gk_ft ?_ | refine gk_u ?_ | refine gk_u' ?_); first | (intro _ e; (first | rw [put_some] at e | rw [put_none] at e); subst e) | (intro _ _ e e'; (first | rw [put_some] at e | rw [put_none] at e); subst e; subst e'))))
  refine thn_normal ?_
  refine awp_seq (awp_sound mixedP _ _ p17_2 _ _ _ ?_)
  unfold ac17_p2
  (repeat' (first | ((with_reducible first | refine aops_cons' fun C hC => ?_ | refine aopsD_cons' fun C hC => ?_ | intro C hC); simp only [go_sem]; ((with_reducible first | refine finA hC ?_ | refine finD hC ?_); clear hC C)) | (with_reducible first | refine awp_seq_k fun K hK => ?_ | refine awp_reg_k fun K hK => ?_ | refine awp_dreg_k fun K hK => ?_ | (refine aops_nil ?_; refine hK _ _ ?_; try clear hK K) | (refine aopsD_nil ?_; refine hK _ _ _ ?_ ?_; (focus kernel_rfl); try clear hK K) | (refine thn_normal ?_; refine hK _ _ ?_; try clear hK K) | refine catch_normal ?_ | refine awp_skip_k ?_ | refine awp_ret_k ?_ | refine awp_exit_k ?_ | refine awp_block_k ?_ | (refine thn_exit ?_; try clear hK K) | (refine thn_ret ?_; try clear hK K) | refine catch_ret ?_ | refine catch_exit ?_ | (refine catch_other ?_ ?_; focus decide)) | ((with_reducible first | apply aops_guard' | apply aopsD_guard' | apply awp_cond_g); focus (simp only [go_sem]; exact rfl)) | (with_reducible first | refine gk_tt ?_ | refine gk_ff ?_ | refine ck_t ?_ | refine ck_f ?_) | ((with_reducible first | refine gk_tf ?_ | refine gk_ft ?_ | refine gk_u ?_ | refine gk_u' ?_); first | (intro _ e; (first | rw [put_some] at e | rw [put_none] at e); subst e) | (intro _ _ e e'; (first | rw [put_some] at e | rw [put_none] at e); subst e; subst e'))))
  refine thn_normal ?_
  refine awp_seq (awp_sound mixedP _ _ p17_3 _ _ _ ?_)
  unfold ac17_p3
  (repeat' (first | ((with_reducible first | refine aops_cons' fun C hC => ?_ | refine aopsD_cons' fun C hC => ?_ | intro C hC); simp only [go_sem]; ((with_reducible first | refine finA hC ?_ | refine finD hC ?_); clear hC C)) | (with_reducible first | refine awp_seq_k fun K hK => ?_ | refine awp_reg_k fun K hK => ?_ | refine awp_dreg_k fun K hK => ?_ | (refine aops_nil ?_; refine hK _ _ ?_; try clear hK K) | (refine aopsD_nil ?_; refine hK _ _ _ ?_ ?_; (focus kernel_rfl); try clear hK K) | (refine thn_normal ?_; refine hK _ _ ?_; try clear hK K) | refine catch_normal ?_ | refine awp_skip_k ?_ | refine awp_ret_k ?_ | refine awp_exit_k ?_ | refine awp_block_k ?_ | (refine thn_exit ?_; try clear hK K) | (refine thn_ret ?_; try clear hK K) | refine catch_ret ?_ | refine catch_exit ?_ | (refine catch_other ?_ ?_; focus decide)) | ((with_reducible first | apply aops_guard' | apply aopsD_guard' | apply awp_cond_g); focus (simp only [go_sem]; exact rfl)) | (with_reducible first | refine gk_tt ?_ | refine gk_ff ?_ | refine ck_t ?_ | refine ck_f ?_) | ((with_reducible first | refine gk_tf ?_ | refine gk_ft ?_ | refine gk_u ?_ | refine gk_u' ?_); first | (intro _ e; (first | rw [put_some] at e | rw [put_none] at e); subst e) | (intro _ _ e e'; (first | rw [put_some] at e | rw [put_none] at e); subst e; subst e'))))
  have hE := ln_len (l.drop st)
  have hle := runL_le lnC (l.drop st)
  rw [List.length_drop] at hle
  have hmain := lr_end (K := AWp Tryd.prog 68 (.seq (cA (cB (cB (cB b17)))) (.seq (.seq (.region (cId (cA b17_l)) (b17_o.dropLast ++ [b17_o.getLastD default]).toArray false) (.block 2 (.loop (.seq (.region (cId (cA b17_i)) (b17_n.headD default :: b17_n.tail).toArray false) (cB b17_i))))) b17_t)) (retP [RV.tmp 4] [.list 3 (encR T)]))
    (Q := retP [RV.tmp 4] [.list 3 (encR T)]) l st (st + (ln (l.drop st)).length) hl (fun ρ fr H hle => AWp.le hle ?_) (l.drop st) (l.take st) (List.take_append_drop _ _) (by rw [List.length_take, hE]; omega)
  · rw [List.length_take, Nat.min_eq_left h] at hmain
    exact awp_loop_k _ (LeB [] (by refine ⟨?_, ?_, ?_⟩ <;> simp only [leFr, leFb, leHp, V.ren, V.renL, V.bd, V.bdL, allL, lt, Go.Ab.get, hget, List.map_cons, List.map_nil, List.length_cons, List.length_nil, List.length_append, List.getElem?_cons_zero, List.getElem?_cons_succ, List.getElem?_nil, Option.join_some, Option.join_none, List.getD_cons_zero, List.getD_cons_succ, List.getD_nil, Nat.reduceAdd, Nat.reduceLT, Nat.reduceEqDiff, Nat.zero_add, reduceIte, if_true, if_false, and_true, true_and, renL_vcells, allL_vcells, renL_pv, leBlk_some, eq_self, true_or, or_true, reduceCtorEq, false_or])) hmain
  refine awp_seq (awp_sound mixedP _ _ p17_4 _ _ _ ?_)
  unfold ac17_p4
  (repeat' (first | ((with_reducible first | refine aops_cons' fun C hC => ?_ | refine aopsD_cons' fun C hC => ?_ | intro C hC); simp only [go_sem]; ((with_reducible first | refine finA hC ?_ | refine finD hC ?_); clear hC C)) | (with_reducible first | refine awp_seq_k fun K hK => ?_ | refine awp_reg_k fun K hK => ?_ | refine awp_dreg_k fun K hK => ?_ | (refine aops_nil ?_; refine hK _ _ ?_; try clear hK K) | (refine aopsD_nil ?_; refine hK _ _ _ ?_ ?_; (focus kernel_rfl); try clear hK K) | (refine thn_normal ?_; refine hK _ _ ?_; try clear hK K) | refine catch_normal ?_ | refine awp_skip_k ?_ | refine awp_ret_k ?_ | refine awp_exit_k ?_ | refine awp_block_k ?_ | (refine thn_exit ?_; try clear hK K) | (refine thn_ret ?_; try clear hK K) | refine catch_ret ?_ | refine catch_exit ?_ | (refine catch_other ?_ ?_; focus decide)) | ((with_reducible first | apply aops_guard' | apply aopsD_guard' | apply awp_cond_g); focus (simp only [go_sem]; exact rfl)) | (with_reducible first | refine gk_tt ?_ | refine gk_ff ?_ | refine ck_t ?_ | refine ck_f ?_) | ((with_reducible first | refine gk_tf ?_ | refine gk_ft ?_ | refine gk_u ?_ | refine gk_u' ?_); first | (intro _ e; (first | rw [put_some] at e | rw [put_none] at e); subst e) | (intro _ _ e e'; (first | rw [put_some] at e | rw [put_none] at e); subst e; subst e'))))
  refine thn_normal ?_
  refine awp_seq (rangeLoop mixedP p17_a r17_op r17_dst r17_g Tryd.underlying9 n17_op n17_dst n17_g p17_b p17_r (by decide) (by decide) ?_)
  have hcut : (⟨l.toArray⟩ : ByteArray).extract st (st + (ln (l.drop st)).length) = ⟨(ln (l.drop st)).toArray⟩ := by
    rw [sb_cut, Nat.add_sub_cancel_left, hE]; rfl
  have h1 : st ≤ st + (ln (l.drop st)).length := by omega
  have h2 : st + (ln (l.drop st)).length ≤ l.length := by omega
  unfold ac17_a
  (repeat' (first | ((with_reducible first | refine aops_cons' fun C hC => ?_ | refine aopsD_cons' fun C hC => ?_ | intro C hC); simp only [go_sem, sb_size, hcut, h1, h2]; ((with_reducible first | refine finA hC ?_ | refine finD hC ?_); clear hC C)) | (with_reducible first | refine awp_seq_k fun K hK => ?_ | refine awp_reg_k fun K hK => ?_ | refine awp_dreg_k fun K hK => ?_ | (refine aops_nil ?_; refine hK _ _ ?_; try clear hK K) | (refine aopsD_nil ?_; refine hK _ _ _ ?_ ?_; (focus kernel_rfl); try clear hK K) | (refine thn_normal ?_; refine hK _ _ ?_; try clear hK K) | refine catch_normal ?_ | refine awp_skip_k ?_ | refine awp_ret_k ?_ | refine awp_exit_k ?_ | refine awp_block_k ?_ | (refine thn_exit ?_; try clear hK K) | (refine thn_ret ?_; try clear hK K) | refine catch_ret ?_ | refine catch_exit ?_ | (refine catch_other ?_ ?_; focus decide)) | ((with_reducible first | apply aops_guard' | apply aopsD_guard' | apply awp_cond_g); focus (simp only [go_sem, sb_size, hcut, h1, h2]; exact rfl)) | (with_reducible first | refine gk_tt ?_ | refine gk_ff ?_ | refine ck_t ?_ | refine ck_f ?_) | ((with_reducible first | refine gk_tf ?_ | refine gk_ft ?_ | refine gk_u ?_ | refine gk_u' ?_); first | (intro _ e; (first | rw [put_some] at e | rw [put_none] at e); subst e) | (intro _ _ e e'; (first | rw [put_some] at e | rw [put_none] at e); subst e; subst e'))))
  refine aops_nil ⟨_, rfl, fun k => ?_⟩
  have hf := lr_first (K := AWp Tryd.prog 68 b17_t (retP [RV.tmp 4] [.list 3 (encR T)])) (Q := retP [RV.tmp 4] [.list 3 (encR T)]) (ln (l.drop st)) st k T (by omega) (by omega) hT
    (fun hn fr h6 => awp_sound mixedP _ _ p17_t _ _ _ ?_) (fun fr h6 => awp_sound mixedP _ _ p17_t _ _ _ ?_)
  · obtain ⟨n, hf⟩ := hf
    exact ⟨_, _, _, (LeB [] (by refine ⟨?_, ?_, ?_⟩ <;> simp only [leFr, leFb, leHp, V.ren, V.renL, V.bd, V.bdL, allL, lt, Go.Ab.get, hget, List.map_cons, List.map_nil, List.length_cons, List.length_nil, List.length_append, List.getElem?_cons_zero, List.getElem?_cons_succ, List.getElem?_nil, Option.join_some, Option.join_none, List.getD_cons_zero, List.getD_cons_succ, List.getD_nil, Nat.reduceAdd, Nat.reduceLT, Nat.reduceEqDiff, Nat.zero_add, reduceIte, if_true, if_false, and_true, true_and, renL_vcells, allL_vcells, renL_pv, leBlk_some, eq_self, true_or, or_true, reduceCtorEq, false_or, ren_itv, bd_itv, put_some])), n, hf⟩
  · rw [hn]
    unfold ac17_t
    (repeat' (first | ((with_reducible first | refine aops_cons' fun C hC => ?_ | refine aopsD_cons' fun C hC => ?_ | intro C hC); simp only [go_sem, h6]; ((with_reducible first | refine finA hC ?_ | refine finD hC ?_); clear hC C)) | (with_reducible first | refine awp_seq_k fun K hK => ?_ | refine awp_reg_k fun K hK => ?_ | refine awp_dreg_k fun K hK => ?_ | (refine aops_nil ?_; refine hK _ _ ?_; try clear hK K) | (refine aopsD_nil ?_; refine hK _ _ _ ?_ ?_; (focus kernel_rfl); try clear hK K) | (refine thn_normal ?_; refine hK _ _ ?_; try clear hK K) | refine catch_normal ?_ | refine awp_skip_k ?_ | refine awp_ret_k ?_ | refine awp_exit_k ?_ | refine awp_block_k ?_ | (refine thn_exit ?_; try clear hK K) | (refine thn_ret ?_; try clear hK K) | refine catch_ret ?_ | refine catch_exit ?_ | (refine catch_other ?_ ?_; focus decide)) | ((with_reducible first | apply aops_guard' | apply aopsD_guard' | apply awp_cond_g); focus (simp only [go_sem, h6]; exact rfl)) | (with_reducible first | refine gk_tt ?_ | refine gk_ff ?_ | refine ck_t ?_ | refine ck_f ?_) | ((with_reducible first | refine gk_tf ?_ | refine gk_ft ?_ | refine gk_u ?_ | refine gk_u' ?_); first | (intro _ e; (first | rw [put_some] at e | rw [put_none] at e); subst e) | (intro _ _ e e'; (first | rw [put_some] at e | rw [put_none] at e); subst e; subst e'))))
    refine retP_ret (List.range 40) rfl ?_
    exact .cons _ _ _ _ Vw_nil .nil
  · unfold ac17_t
    (repeat' (first | ((with_reducible first | refine aops_cons' fun C hC => ?_ | refine aopsD_cons' fun C hC => ?_ | intro C hC); simp only [go_sem, h6]; ((with_reducible first | refine finA hC ?_ | refine finD hC ?_); clear hC C)) | (with_reducible first | refine awp_seq_k fun K hK => ?_ | refine awp_reg_k fun K hK => ?_ | refine awp_dreg_k fun K hK => ?_ | (refine aops_nil ?_; refine hK _ _ ?_; try clear hK K) | (refine aopsD_nil ?_; refine hK _ _ _ ?_ ?_; (focus kernel_rfl); try clear hK K) | (refine thn_normal ?_; refine hK _ _ ?_; try clear hK K) | refine catch_normal ?_ | refine awp_skip_k ?_ | refine awp_ret_k ?_ | refine awp_exit_k ?_ | refine awp_block_k ?_ | (refine thn_exit ?_; try clear hK K) | (refine thn_ret ?_; try clear hK K) | refine catch_ret ?_ | refine catch_exit ?_ | (refine catch_other ?_ ?_; focus decide)) | ((with_reducible first | apply aops_guard' | apply aopsD_guard' | apply awp_cond_g); focus (simp only [go_sem, h6]; exact rfl)) | (with_reducible first | refine gk_tt ?_ | refine gk_ff ?_ | refine ck_t ?_ | refine ck_f ?_) | ((with_reducible first | refine gk_tf ?_ | refine gk_ft ?_ | refine gk_u ?_ | refine gk_u' ?_); first | (intro _ e; (first | rw [put_some] at e | rw [put_none] at e); subst e) | (intro _ _ e e'; (first | rw [put_some] at e | rw [put_none] at e); subst e; subst e'))))
    refine retP_ret (List.range 40) rfl ?_
    exact .cons _ _ _ _ (row_R (by decide) rfl rfl) .nil
end Go.Proofs.YtgphapkpoamcgaaDoor
