/- X4: joined from ZX4. -/
import Derived.Test.YtiediojibljpiaaVFnU
import Derived.Test.YtiediojibljpiaaVX3
import Derived.Test.YtiediojibljpiaaVX8
/- UnifyOrderIndependent: one round of the range over the function. -/
set_option maxRecDepth 10000
set_option linter.unusedSimpArgs false
set_option linter.unusedVariables false
namespace Go.Proofs.Ytiediojibljpiaa
open Go Go.Ab Go.RowKit
def Eqn.tv (e : Eqn) : List V := [.pv (ii e.l.kd), .pv (ii e.l.id), .pv (.list 3 (encL e.l.args)), .pv (ii e.r.kd), .pv (ii e.r.id), .pv (.list 3 (encL e.r.args))]
theorem renL_tv {ρ : Nat → Nat} (xs : List Eqn) : (xs.map Eqn.tv).map (V.renL ρ) = xs.map Eqn.tv := by
  rw [List.map_map]; exact List.map_congr_left fun p _ => rfl
theorem renL_tv1 {ρ : Nat → Nat} (x : Eqn) : V.renL ρ x.tv = x.tv := rfl
theorem bdL_tv1 {S : Nat → Prop} (x : Eqn) : V.bdL S x.tv = True := by simp [Eqn.tv, V.bdL, V.bd]
theorem allL_tv {S : Nat → Prop} (xs : List Eqn) : allL S (xs.map Eqn.tv) = True := by
  simp only [allL_iff, eq_iff_iff, iff_true]
  intro cs hcs
  obtain ⟨p, _, rfl⟩ := List.mem_map.1 hcs
  simp [Eqn.tv, V.bdL, V.bd]
theorem tv_len (e : Eqn) : e.tv.length = 6 := rfl
theorem VwE_tv {h : HF} {B : List Nat} : ∀ (xs : List Eqn), VwE h B 6 (xs.map Eqn.tv) (encQ xs)
  | [] => .nil 6
  | x :: xs => .cons 6 _ _ _ _ rfl (.cons _ _ _ _ (.pv _) (.cons _ _ _ _ (.pv _) (.cons _ _ _ _ (.pv _) (.cons _ _ _ _ (.pv _) (.cons _ _ _ _ (.pv _) (.cons _ _ _ _ (.pv _) .nil)))))) (VwE_tv xs)
theorem row_tv {h : HF} {B : List Nat} {b n : Nat} {fl ro : Bool} {ty : Nat} {xs : List Eqn} {tg : Option (Nat × Nat × Nat)} (hb : b ∈ B) (hk : h b = some ⟨ro, ty, 6, xs.map Eqn.tv, tg⟩) (hn : n = xs.length) : Vw h B (.row b n fl) (.list 6 (encQ xs)) :=
  row_view hb hk (by simp [hn]) (VwE_tv xs)
/-- the box of 'reversed' and what it holds -/
def Hc (T : Nat × Nat × Nat) : List Eqn → Hp
  | [] => [some ⟨false, 22, 1, [[.pv (.lit (.slice none 0 0))]], some T⟩]
  | r :: rs => [some ⟨false, 22, 1, [[.row 1 (r :: rs).length false]], some T⟩, some ⟨false, 31, 6, (r :: rs).map Eqn.tv, none⟩]
def HL (T : Nat × Nat × Nat) (e : Eqn) : List Eqn → Hp
  | [] => [some ⟨false, 22, 1, [[.pv (.lit (.slice none 0 0))]], some T⟩, some ⟨false, 31, 6, [e.tv], none⟩]
  | r :: rs => [some ⟨false, 22, 1, [[.row 1 (r :: rs).length false]], some T⟩, some ⟨false, 31, 6, (r :: rs).map Eqn.tv, none⟩, some ⟨false, 31, 6, [e.tv], none⟩]
def kL : List Eqn → Nat
  | [] => 1
  | _ :: _ => 2
theorem as_ok (T : Nat × Nat × Nat) (e : Eqn) (rs : List Eqn) : awp Try.prog ac4_as (LeP [(5, .ptr 0 0 0), (7, .ptr (kL rs) 0 0)] (HL T e rs)) [(27, .pv e.enc), (5, .ptr 0 0 0)] (Hc T rs) := by
  unfold ac4_as
  cases rs with
  | nil =>
    simp only [Hc, HL, kL]
    (repeat' (first|((with_reducible first|refine qqT fun C hC=>?_|refine qqU fun C hC=>?_|intro C hC);simp only [go_sem, cells_eqn, pcells_eqn, Eqn.tv, Eqn.enc];((with_reducible first|refine finA hC ?_|refine finD hC ?_);clear hC C))|(with_reducible first|refine qqA fun K hK=>?_|refine qqB fun K hK=>?_|refine qqC fun K hK=>?_|(refine qqD ?_;refine hK _ _ ?_;try clear hK K)|(refine qqE ?_;refine hK _ _ _ ?_ ?_;(focus kernel_rfl);try clear hK K)|(refine qqF ?_;refine hK _ _ ?_;try clear hK K)|refine qqG ?_|refine qqH ?_|refine qqI ?_|refine qqJ ?_|refine qqK ?_|(refine qqL ?_;try clear hK K)|(refine qqM ?_;try clear hK K)|refine qqN ?_|refine qqO ?_|(refine qqP ?_ ?_;focus decide))|((with_reducible first|apply qqQ|apply qqR|apply qqS);focus (simp only [go_sem, cells_eqn, pcells_eqn, Eqn.tv, Eqn.enc];exact rfl))|(with_reducible first|refine gk_tt ?_|refine gk_ff ?_|refine ck_t ?_|refine ck_f ?_)|((with_reducible first|refine gk_tf ?_|refine gk_ft ?_|refine gk_u ?_|refine gk_u' ?_);first|(intro _ e;(first|rw [qqY] at e|rw [qqZ] at e);subst e)|(intro _ _ e e';(first|rw [qqY] at e|rw [qqZ] at e);subst e;subst e'))))
    exact ⟨rfl, _, (LeB [0, 1] (by refine ⟨?_, ?_, ?_⟩ <;> simp only [leFr, leFb, leHp, V.ren, V.renL, V.bd, V.bdL, allL, lt, Go.Ab.get, hget, List.map_cons, List.map_nil, List.length_cons, List.length_nil, List.length_append, List.getElem?_cons_zero, List.getElem?_cons_succ, List.getElem?_nil, Option.join_some, Option.join_none, List.getD_cons_zero, List.getD_cons_succ, List.getD_nil, Nat.reduceAdd, Nat.reduceLT, Nat.reduceEqDiff, Nat.zero_add, reduceIte, if_true, if_false, and_true, true_and, renL_vcells, allL_vcells, renL_pv, leBlk_some, eq_self, true_or, or_true, reduceCtorEq, false_or, renL_tv1, bdL_tv1, allL, Eqn.tv]))⟩
  | cons r rs =>
    simp only [Hc, HL, kL]
    (repeat' (first|((with_reducible first|refine qqT fun C hC=>?_|refine qqU fun C hC=>?_|intro C hC);simp only [go_sem, cells_eqn, pcells_eqn, Eqn.tv, Eqn.enc];((with_reducible first|refine finA hC ?_|refine finD hC ?_);clear hC C))|(with_reducible first|refine qqA fun K hK=>?_|refine qqB fun K hK=>?_|refine qqC fun K hK=>?_|(refine qqD ?_;refine hK _ _ ?_;try clear hK K)|(refine qqE ?_;refine hK _ _ _ ?_ ?_;(focus kernel_rfl);try clear hK K)|(refine qqF ?_;refine hK _ _ ?_;try clear hK K)|refine qqG ?_|refine qqH ?_|refine qqI ?_|refine qqJ ?_|refine qqK ?_|(refine qqL ?_;try clear hK K)|(refine qqM ?_;try clear hK K)|refine qqN ?_|refine qqO ?_|(refine qqP ?_ ?_;focus decide))|((with_reducible first|apply qqQ|apply qqR|apply qqS);focus (simp only [go_sem, cells_eqn, pcells_eqn, Eqn.tv, Eqn.enc];exact rfl))|(with_reducible first|refine gk_tt ?_|refine gk_ff ?_|refine ck_t ?_|refine ck_f ?_)|((with_reducible first|refine gk_tf ?_|refine gk_ft ?_|refine gk_u ?_|refine gk_u' ?_);first|(intro _ e;(first|rw [qqY] at e|rw [qqZ] at e);subst e)|(intro _ _ e e';(first|rw [qqY] at e|rw [qqZ] at e);subst e;subst e'))))
    exact ⟨rfl, _, (LeB [0, 1, 2] (by refine ⟨?_, ?_, ?_⟩ <;> simp only [leFr, leFb, leHp, V.ren, V.renL, V.bd, V.bdL, allL, lt, Go.Ab.get, hget, List.map_cons, List.map_nil, List.length_cons, List.length_nil, List.length_append, List.getElem?_cons_zero, List.getElem?_cons_succ, List.getElem?_nil, Option.join_some, Option.join_none, List.getD_cons_zero, List.getD_cons_succ, List.getD_nil, Nat.reduceAdd, Nat.reduceLT, Nat.reduceEqDiff, Nat.zero_add, reduceIte, if_true, if_false, and_true, true_and, renL_vcells, allL_vcells, renL_pv, leBlk_some, eq_self, true_or, or_true, reduceCtorEq, false_or, renL_tv, allL_tv, renL_tv1, bdL_tv1, allL, Eqn.tv, List.map_cons]))⟩
theorem bo_ok (T : Nat × Nat × Nat) (e : Eqn) (rs : List Eqn) (hl : rs.length + 1 ≤ big) : awp Try.prog ac4_bo (LeP [] (Hc T (rs ++ [RQ e]))) [(5, .ptr 0 0 0), (7, .ptr (kL rs) 0 0)] (HL T e rs) := by
  unfold ac4_bo
  cases rs with
  | nil =>
    simp only [List.nil_append]
    simp only [Hc, HL, kL]
    (repeat' (first|((with_reducible first|refine qqT fun C hC=>?_|refine qqU fun C hC=>?_|intro C hC);simp only [go_sem, cells_eqn, pcells_eqn, Eqn.tv, Eqn.enc, tv_len];((with_reducible first|refine finA hC ?_|refine finD hC ?_);clear hC C))|(with_reducible first|refine qqA fun K hK=>?_|refine qqB fun K hK=>?_|refine qqC fun K hK=>?_|(refine qqD ?_;refine hK _ _ ?_;try clear hK K)|(refine qqE ?_;refine hK _ _ _ ?_ ?_;(focus kernel_rfl);try clear hK K)|(refine qqF ?_;refine hK _ _ ?_;try clear hK K)|refine qqG ?_|refine qqH ?_|refine qqI ?_|refine qqJ ?_|refine qqK ?_|(refine qqL ?_;try clear hK K)|(refine qqM ?_;try clear hK K)|refine qqN ?_|refine qqO ?_|(refine qqP ?_ ?_;focus decide))|((with_reducible first|apply qqQ|apply qqR|apply qqS);focus (simp only [go_sem, cells_eqn, pcells_eqn, Eqn.tv, Eqn.enc, tv_len];exact rfl))|(with_reducible first|refine gk_tt ?_|refine gk_ff ?_|refine ck_t ?_|refine ck_f ?_)|((with_reducible first|refine gk_tf ?_|refine gk_ft ?_|refine gk_u ?_|refine gk_u' ?_);first|(intro _ e;(first|rw [qqY] at e|rw [qqZ] at e);subst e)|(intro _ _ e e';(first|rw [qqY] at e|rw [qqZ] at e);subst e;subst e'))))
    exact ⟨rfl, _, (LeB [0, 3] (by refine ⟨?_, ?_, ?_⟩ <;> simp only [leFr, leFb, leHp, V.ren, V.renL, V.bd, V.bdL, allL, lt, Go.Ab.get, hget, List.map_cons, List.map_nil, List.length_cons, List.length_nil, List.length_append, List.getElem?_cons_zero, List.getElem?_cons_succ, List.getElem?_nil, Option.join_some, Option.join_none, List.getD_cons_zero, List.getD_cons_succ, List.getD_nil, Nat.reduceAdd, Nat.reduceLT, Nat.reduceEqDiff, Nat.zero_add, reduceIte, if_true, if_false, and_true, true_and, renL_vcells, allL_vcells, renL_pv, leBlk_some, eq_self, true_or, or_true, reduceCtorEq, false_or, renL_tv1, bdL_tv1, allL, Eqn.tv, RQ, List.map_cons]))⟩
  | cons r rs =>
    simp only [List.cons_append]
    simp only [Hc, HL, kL]
    have hl2 : (rs.length + 1 + 1 ≤ big) = True := by simp only [List.length_cons] at hl; simpa using hl
    have hrow : List.map Eqn.tv (r :: rs) ++ [[.pv (ii e.r.kd), .pv (ii e.r.id), .pv (.list 3 (encL e.r.args)), .pv (ii e.l.kd), .pv (ii e.l.id), .pv (.list 3 (encL e.l.args))]] = (r :: (rs ++ [RQ e])).map Eqn.tv := by simp [Eqn.tv, RQ]
    have he1 : List.take 3 e.tv = [.pv (ii e.l.kd), .pv (ii e.l.id), .pv (.list 3 (encL e.l.args))] := rfl
    have he2 : List.take 3 (List.drop 3 e.tv) = [.pv (ii e.r.kd), .pv (ii e.r.id), .pv (.list 3 (encL e.r.args))] := rfl
    (repeat' (first|((with_reducible first|refine qqT fun C hC=>?_|refine qqU fun C hC=>?_|intro C hC);simp only [go_sem, he1, he2, tv_len, List.length_map, List.length_cons, hl2];((with_reducible first|refine finA hC ?_|refine finD hC ?_);clear hC C))|(with_reducible first|refine qqA fun K hK=>?_|refine qqB fun K hK=>?_|refine qqC fun K hK=>?_|(refine qqD ?_;refine hK _ _ ?_;try clear hK K)|(refine qqE ?_;refine hK _ _ _ ?_ ?_;(focus kernel_rfl);try clear hK K)|(refine qqF ?_;refine hK _ _ ?_;try clear hK K)|refine qqG ?_|refine qqH ?_|refine qqI ?_|refine qqJ ?_|refine qqK ?_|(refine qqL ?_;try clear hK K)|(refine qqM ?_;try clear hK K)|refine qqN ?_|refine qqO ?_|(refine qqP ?_ ?_;focus decide))|((with_reducible first|apply qqQ|apply qqR|apply qqS);focus (simp only [go_sem, he1, he2, tv_len, List.length_map, List.length_cons, hl2];exact rfl))|(with_reducible first|refine gk_tt ?_|refine gk_ff ?_|refine ck_t ?_|refine ck_f ?_)|((with_reducible first|refine gk_tf ?_|refine gk_ft ?_|refine gk_u ?_|refine gk_u' ?_);first|(intro _ e;(first|rw [qqY] at e|rw [qqZ] at e);subst e)|(intro _ _ e e';(first|rw [qqY] at e|rw [qqZ] at e);subst e;subst e'))))
    have hrow2 : r.tv :: (List.map Eqn.tv rs ++ [[.pv (ii e.r.kd), .pv (ii e.r.id), .pv (.list 3 (encL e.r.args)), .pv (ii e.l.kd), .pv (ii e.l.id), .pv (.list 3 (encL e.l.args))]]) = (r :: (rs ++ [RQ e])).map Eqn.tv := hrow
    have hlen : rs.length + 1 + 1 = (r :: (rs ++ [RQ e])).length := by simp
    rw [hrow2, hlen]
    exact ⟨rfl, _, (LeB [0, 4] (by refine ⟨?_, ?_, ?_⟩ <;> simp only [leFr, leFb, leHp, V.ren, V.renL, V.bd, V.bdL, allL, lt, Go.Ab.get, hget, List.map_cons, List.map_nil, List.length_cons, List.length_nil, List.length_append, List.getElem?_cons_zero, List.getElem?_cons_succ, List.getElem?_nil, Option.join_some, Option.join_none, List.getD_cons_zero, List.getD_cons_succ, List.getD_nil, Nat.reduceAdd, Nat.reduceLT, Nat.reduceEqDiff, Nat.zero_add, reduceIte, if_true, if_false, and_true, true_and, renL_vcells, allL_vcells, renL_pv, leBlk_some, eq_self, true_or, or_true, reduceCtorEq, false_or, renL_tv, allL_tv, renL_tv1, bdL_tv1]))⟩
noncomputable def recL (fn : FuncId) (tm : Array Value) (D : Nat) (sta : LoopState) (pe : Option Code) : Loop := { state := sta, pending := pe, fn := fn, tmps := tm, params := #[26, 27], assign := asC, body := .block 1 boC, defers := D }
/-- what stands between two rounds -/
structure Jt (T : Nat × Nat × Nat) (n0 l D : Nat) (fn : FuncId) (tm : Array Value) (rs : List Eqn) (G : Gh) (W : World) : Prop where
  rel : Rel (lt (Hc T rs)) G (hget (Hc T rs)) W
  lo : Lo n0 G (hget (Hc T rs))
  loop : W.heap[l]? = some (.loop (recL fn tm D .ready none))
  dfr : W.heap[D]? = some (.deferred (some []))
  size : n0 ≤ W.heap.size
  nl : n0 ≤ l
theorem hc0 (T : Nat × Nat × Nat) (rs : List Eqn) : ∃ k, hget (Hc T rs) 0 = some k ∧ k.tag = some T := by
  cases rs with
  | nil => exact ⟨_, rfl, rfl⟩
  | cons r rs => exact ⟨_, rfl, rfl⟩
theorem hc_phi {T : Nat × Nat × Nat} {rs : List Eqn} {S : Nat → Prop} {G : Gh} {W : World} (r : Rel S G (hget (Hc T rs)) W) : G.φ 0 = T.1 := by
  obtain ⟨k, e, et⟩ := hc0 T rs
  obtain ⟨arr, _, e2⟩ := r.blk 0 k e
  rw [e2.tag T et]
theorem hc_lt (T : Nat × Nat × Nat) (rs : List Eqn) : lt (Hc T rs) 0 := by
  cases rs <;> simp [lt, Hc]
theorem round_ok {T : Nat × Nat × Nat} {n0 l D m : Nat} {fn : FuncId} {tm : Array Value} {e : Eqn} {rs : List Eqn} {G : Gh} {W : World} {ui u : Value} (hl : rs.length + 1 ≤ big) (htm : tm.size = 49) (h5 : tm.getD 5 undef = .pointer (some ⟨T.1, 0, none⟩))
    (hu : RP G.I e.enc u) (J : Jt T n0 l D fn tm rs G W) : YieldAt (FW none) m Try.prog l #[ui, u] W fun en W' => en = .returned (.bool true) ∧ ∃ G', Jt T n0 l D fn tm (rs ++ [RQ e]) G' W' ∧ G.I.le G'.I ∧ Below n0 W W' := by
  have hy := run_yield (P := Try.prog) (args := #[ui, u]) J.loop rfl
  have st0 : ASt 49 G [(27, .pv e.enc), (5, .ptr 0 0 0)] (Hc T rs) { tmps := ((#[26, 27].zip #[ui, u]).foldl (fun tmps (x : Tmp × Value) => tmps.setIfInBounds x.1 x.2) tm), defers := [] } W := by
    refine ⟨J.rel, fun t => ?_, fun t => ?_, ?_, rfl⟩
    · by_cases h27 : t = 27
      · subst h27
        have : (((#[26, 27].zip #[ui, u]).foldl (fun tmps (x : Tmp × Value) => tmps.setIfInBounds x.1 x.2) tm)).getD 27 undef = u := by
          simp [Array.getD_eq_getD_getElem?, htm]
        rw [this]
        simp only [Ab.get, if_true, R]
        exact hu
      · by_cases h5' : t = 5
        · subst h5'
          have : (((#[26, 27].zip #[ui, u]).foldl (fun tmps (x : Tmp × Value) => tmps.setIfInBounds x.1 x.2) tm)).getD 5 undef = tm.getD 5 undef := by
            simp [Array.getD_eq_getD_getElem?, Array.getElem?_setIfInBounds]
          rw [this, h5]
          simp [Ab.get, R, hc_phi J.rel]
        · simp [Ab.get, R, Ne.symm h27, Ne.symm h5']
    · by_cases h27 : t = 27
      · subst h27; simp [Ab.get, V.bd]
      · by_cases h5' : t = 5
        · subst h5'; simp [Ab.get, V.bd]; exact hc_lt T rs
        · simp [Ab.get, V.bd, Ne.symm h27, Ne.symm h5']
    · simp [htm]
  refine ⟨_, _, _, _, hy, roundIn_of_wpIn (F := FW none) trivial ?_⟩
  refine reg_le (ro := some l) (ds := []) p4_as (as_ok T e rs) st0 fun G1 a1 w1 st1 tr1 => ?_
  have hrec1 := tr_keep tr1 J.rel J.loop rfl
  have hd1 := tr_keep tr1 J.rel J.dfr rfl
  have lo1 := tr_lo tr1 J.lo J.size
  have b1 := tr_below tr1 J.lo J.size
  have hlt1 : l < w1.heap.size := (Array.getElem?_eq_some_iff.1 hrec1).1
  refine ⟨_, run_beginRound hrec1 rfl, ?_⟩
  generalize hbusy : ({ recL fn tm D .ready none with state := .busy } : Loop) = rb
  have st1' : ASt 49 G1 [(5, .ptr 0 0 0), (7, .ptr (kL rs) 0 0)] (HL T e rs) a1 (w1.putObj l (.loop rb)) := ⟨rel_putObj _ st1.rel hrec1 rfl, st1.fr, st1.bd, st1.size, st1.defers⟩
  have hrb : (w1.putObj l (.loop rb)).heap[l]? = some (.loop rb) := World.putObj_heap_same hlt1
  have hne : D ≠ l := fun h => by rw [h, hrec1] at hd1; cases hd1
  have hd1' : (w1.putObj l (.loop rb)).heap[D]? = some (.deferred (some [])) := (World.putObj_heap_other hne).trans hd1
  have b1' := b1.trans (below_putObj (.loop rb) hrec1 J.nl)
  have sz1 : n0 ≤ (w1.putObj l (.loop rb)).heap.size := by have := J.size; have := b1'.size; omega
  refine wpIn_block (reg_le (ro := some l) (ds := []) p4_bo (bo_ok T e rs hl) st1' fun G2 a2 w2 st2 tr2 => ?_)
  have hrec2 := tr_keep tr2 st1'.rel hrb rfl
  have hd2 := tr_keep tr2 st1'.rel hd1' rfl
  have lo2 := tr_lo tr2 lo1 sz1
  have b2 := b1'.trans (tr_below tr2 lo1 sz1)
  have hlt2 : l < w2.heap.size := (Array.getElem?_eq_some_iff.1 hrec2).1
  subst hbusy
  refine ⟨_, _, run_endRound none hrec2, rfl, G2, ⟨rel_putObj _ st2.rel hrec2 rfl, lo2, World.putObj_heap_same hlt2, (World.putObj_heap_other hne).trans hd2, ?_, J.nl⟩, tr1.I.trans tr2.I, b2.trans (below_putObj _ hrec2 J.nl)⟩
  have := J.size; have := b2.size; simp; omega
end Go.Proofs.Ytiediojibljpiaa
