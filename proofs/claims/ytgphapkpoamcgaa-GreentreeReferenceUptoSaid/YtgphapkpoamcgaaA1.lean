/- A1: joined from S0 NL S1 S2a S2 S4 S5. -/
import Derived.Test.YtgphapkpoamcgaaFnG
import Derived.Test.YtgphapkpoamcgaaK3
/- The tree of a type, and how it stands as a value. -/
set_option linter.unusedSimpArgs false
namespace Go.Proofs.Ytgphapkpoamcgaa
open Go Go.Ab
inductive Ty where
  | mk (k id : Int) (args : List Ty)
abbrev ii (n : Int) : PV := .lit (.int .i64 n)
abbrev bb (n : Bool) : PV := .lit (.bool n)
mutual
def Ty.enc : Ty → PV
  | .mk k id ss => .agg [ii k, ii id, .list 3 (encL ss)]
def encL : List Ty → List PV
  | [] => []
  | t :: ts => t.enc :: encL ts
end
theorem encL_map (ts : List Ty) : encL ts = ts.map Ty.enc := by induction ts with
  | nil => rfl
  | cons t ts ih => simp [encL, ih]
theorem encL_app (ts us : List Ty) : encL (ts ++ us) = encL ts ++ encL us := by simp [encL_map]
theorem encL_len (ts : List Ty) : (encL ts).length = ts.length := by simp [encL_map]
theorem encL_at (ts us : List Ty) (t : Ty) : (encL (ts ++ t :: us))[ts.length]? = some t.enc := by simp [encL_map]
def Ty.kd : Ty → Int | .mk k _ _ => k
def Ty.id : Ty → Int | .mk _ i _ => i
def Ty.args : Ty → List Ty | .mk _ _ a => a
def Ty.tc (t : Ty) : List V := [.pv (ii t.kd), .pv (ii t.id), .pv (.list 3 (encL t.args))]
theorem enc_eq (t : Ty) : t.enc = .agg [ii t.kd, ii t.id, .list 3 (encL t.args)] := by cases t; rfl
theorem cells_enc (t : Ty) : (V.pv t.enc).cells? = some t.tc := by cases t; rfl
theorem pcells_enc (t : Ty) : t.enc.cells = [ii t.kd, ii t.id, .list 3 (encL t.args)] := by cases t; rfl
theorem Vw_tc {h : HF} {B : List Nat} (t : Ty) : VwL h B t.tc [ii t.kd, ii t.id, .list 3 (encL t.args)] := .cons _ _ _ _ (.pv _) (.cons _ _ _ _ (.pv _) (.cons _ _ _ _ (.pv _) .nil))
theorem Vw_enc {h : HF} {B : List Nat} (t : Ty) : Vw h B (.agg [.pv (ii t.kd), .pv (ii t.id), .pv (.list 3 (encL t.args))]) t.enc := by rw [enc_eq]; exact .agg _ _ (Vw_tc t)
theorem Vw_penc {h : HF} {B : List Nat} (t : Ty) : Vw h B (.pv (.agg [ii t.kd, ii t.id, .list 3 (encL t.args)])) t.enc := by rw [enc_eq]; exact .pv _
theorem tc_len (t : Ty) : t.tc.length = 3 := rfl
theorem VwE_tc {h : HF} {B : List Nat} : ∀ (ts : List Ty), VwE h B 3 (ts.map Ty.tc) (encL ts)
  | [] => .nil _
  | t :: ts => .cons _ _ _ _ _ (by rw [pcells_enc]; rfl) (by rw [pcells_enc]; exact Vw_tc t) (VwE_tc ts)
theorem renL_tc1 {ρ : Nat → Nat} (t : Ty) : V.renL ρ t.tc = t.tc := rfl
theorem bdL_tc {S : Nat → Prop} (t : Ty) : V.bdL S t.tc = True := by simp [Ty.tc, V.bdL, V.bd]
theorem renL_tc {ρ : Nat → Nat} (ts : List Ty) : (ts.map Ty.tc).map (V.renL ρ) = ts.map Ty.tc := by
  rw [List.map_map]; exact List.map_congr_left fun p _ => rfl
theorem allL_tc {S : Nat → Prop} (ts : List Ty) : allL S (ts.map Ty.tc) = True := by
  simp only [allL_iff, eq_iff_iff, iff_true]
  intro cs hcs
  obtain ⟨p, _, rfl⟩ := List.mem_map.1 hcs
  simp [Ty.tc, V.bdL, V.bd]
end Go.Proofs.Ytgphapkpoamcgaa
/- The nil list. -/
namespace Go.Proofs.Ytgphapkpoamcgaa
open Go Go.Ab
def nl : PV := .lit (.slice none 0 0)
end Go.Proofs.Ytgphapkpoamcgaa
/- types.Map -/
set_option maxRecDepth 10000
set_option linter.unusedSimpArgs false
set_option linter.unusedVariables false
namespace Go.Proofs.Ytgphapkpoamcgaa
open Go Go.Ab
mutual
def mapT (g : Ty → Ty × Bool) : Ty → Ty
  | .mk k id ss => if (g (.mk k id ss)).2 then (g (.mk k id ss)).1 else .mk k id (mapTL g ss)
def mapTL (g : Ty → Ty × Bool) : List Ty → List Ty
  | [] => []
  | t :: ts => mapT g t :: mapTL g ts
end
theorem mapTL_map (g : Ty → Ty × Bool) (ts : List Ty) : mapTL g ts = ts.map (mapT g) := by induction ts with
  | nil => rfl
  | cons t ts ih => simp [mapTL, ih]
theorem mapTL_app (g : Ty → Ty × Bool) (ts us : List Ty) : mapTL g (ts ++ us) = mapTL g ts ++ mapTL g us := by simp [mapTL_map]
theorem mapTL_len (g : Ty → Ty × Bool) (ts : List Ty) : (mapTL g ts).length = ts.length := by simp [mapTL_map]
end Go.Proofs.Ytgphapkpoamcgaa
/- Types: clone, constructors, looking for one. -/
set_option maxRecDepth 10000
set_option linter.unusedSimpArgs false
set_option linter.unusedVariables false
namespace Go.Proofs.Ytgphapkpoamcgaa
open Go Go.Ab
theorem c0 : ((0 : Nat) : Int) = 0 := rfl
mutual
theorem mapT_id {g : Ty → Ty × Bool} (h : ∀ t, (g t).2 = false) : ∀ t, mapT g t = t
  | .mk k id ss => by simp only [mapT, h, Bool.false_eq_true, if_false, mapTL_id h ss]
theorem mapTL_id {g : Ty → Ty × Bool} (h : ∀ t, (g t).2 = false) : ∀ ts, mapTL g ts = ts
  | [] => rfl
  | t :: ts => by simp only [mapTL, mapT_id h t, mapTL_id h ts]
end
/-- the place of the first one -/
def idxF {α : Type} (p : α → Bool) : List α → Nat → Int
  | [], _ => -1
  | x :: xs, i => if p x then (i : Int) else idxF p xs (i + 1)
theorem idxF_ge {α : Type} (p : α → Bool) : ∀ (ts : List α) (i : Nat), decide (idxF p ts i ≥ 0) = ts.any p
  | [], _ => rfl
  | t :: ts, i => by
    simp only [idxF, List.any_cons]
    by_cases h : p t = true
    · simp only [h, if_true, Bool.true_or, decide_eq_true_eq]; omega
    · simp only [h, Bool.false_or, Bool.false_eq_true, if_false]; exact idxF_ge p ts (i + 1)
end Go.Proofs.Ytgphapkpoamcgaa
/- Types: equality. -/
set_option maxRecDepth 10000
set_option linter.unusedSimpArgs false
set_option linter.unusedVariables false
namespace Go.Proofs.Ytgphapkpoamcgaa
open Go Go.Ab
mutual
def eqT : Ty → Ty → Bool
  | .mk k i ss, .mk k' i' ss' => if k == k' then if i == i' then eqTL ss ss' else false else false
def eqTL : List Ty → List Ty → Bool
  | [], [] => true
  | a :: xs, b :: ys => if eqT a b then eqTL xs ys else false
  | [], _ :: _ => false
  | _ :: _, [] => false
end
mutual
theorem eqT_iff : ∀ a b : Ty, eqT a b = true ↔ a = b
  | .mk k i ss, .mk k' i' ss' => by
    simp only [eqT, Ty.mk.injEq]
    by_cases h : k = k'
    · by_cases h2 : i = i'
      · simp [h, h2, eqTL_iff ss ss']
      · simp [h, h2]
    · simp [h]
theorem eqTL_iff : ∀ a b : List Ty, eqTL a b = true ↔ a = b
  | [], [] => by simp [eqTL]
  | a :: xs, b :: ys => by
    simp only [eqTL, List.cons.injEq]
    by_cases h : eqT a b = true
    · have e := (eqT_iff a b).1 h
      rw [if_pos h, eqTL_iff xs ys]; simp [e]
    · have : ¬ a = b := fun e => h ((eqT_iff a b).2 e)
      simp [h, this]
  | [], b :: ys => by simp [eqTL]
  | a :: xs, [] => by simp [eqTL]
end
theorem eqTL_len {xs ys : List Ty} (h : ((xs.length : Int) != (ys.length : Int)) = true) : eqTL xs ys = false := by
  cases he : eqTL xs ys with
  | false => rfl
  | true => have := (eqTL_iff xs ys).1 he; subst this; simp at h
theorem eqT_eq (a b : Ty) : eqT a b = if a.kd == b.kd then if a.id == b.id then eqTL a.args b.args else false else false := by
  cases a; cases b; simp only [eqT]; rfl
end Go.Proofs.Ytgphapkpoamcgaa
/- Types: Substitute; lists of integers. -/
set_option maxRecDepth 10000
set_option linter.unusedSimpArgs false
set_option linter.unusedVariables false
namespace Go.Proofs.Ytgphapkpoamcgaa
open Go Go.Ab
structure Bd where
  v : Int
  t : Ty
def Bd.enc (b : Bd) : PV := .agg [ii b.v, ii b.t.kd, ii b.t.id, .list 3 (encL b.t.args)]
def encB (bs : List Bd) : List PV := bs.map Bd.enc
theorem encB_len (ts : List Bd) : (encB ts).length = ts.length := by simp [encB]
theorem encB_at (ts us : List Bd) (t : Bd) : (encB (ts ++ t :: us))[ts.length]? = some t.enc := by simp [encB]
theorem pcells_bd (b : Bd) : b.enc.cells = [ii b.v, ii b.t.kd, ii b.t.id, .list 3 (encL b.t.args)] := rfl
theorem Vw_pbd {h : HF} {B : List Nat} (b : Bd) : Vw h B (.pv (.agg [ii b.v, ii b.t.kd, ii b.t.id, .list 3 (encL b.t.args)])) b.enc := .pv _
theorem idxF_spec {α : Type} (p : α → Bool) : ∀ (xs : List α) (i : Nat), (idxF p xs i = -1 ∧ ∀ x ∈ xs, p x = false) ∨ ∃ pre b post, xs = pre ++ b :: post ∧ p b = true ∧ idxF p xs i = ((i + pre.length : Nat) : Int) ∧ ∀ x ∈ pre, p x = false
  | [], i => .inl ⟨rfl, by simp⟩
  | x :: xs, i => by
    by_cases h : p x = true
    · exact .inr ⟨[], x, xs, rfl, h, by simp [idxF, h], by simp⟩
    · have h : p x = false := by simpa using h
      rcases idxF_spec p xs (i + 1) with ⟨e, hn⟩ | ⟨pre, b, post, rfl, hb, e, hn⟩
      · refine .inl ⟨by simp only [idxF, h, Bool.false_eq_true, if_false]; exact e, fun y hy => ?_⟩
        rcases List.mem_cons.1 hy with rfl | hy
        · exact h
        · exact hn y hy
      · refine .inr ⟨x :: pre, b, post, rfl, hb, ?_, fun y hy => ?_⟩
        · simp only [idxF, h, Bool.false_eq_true, if_false, e, List.length_cons]
          rw [show i + 1 + pre.length = i + (pre.length + 1) by omega]
        · rcases List.mem_cons.1 hy with rfl | hy
          · exact h
          · exact hn y hy
def findB : List Bd → Int → Option Ty
  | [], _ => none
  | b :: bs, id => if b.v == id then some b.t else findB bs id
theorem findB_none {id : Int} : ∀ {bs : List Bd}, (∀ x ∈ bs, (x.v == id) = false) → findB bs id = none
  | [], _ => rfl
  | b :: bs, h => by simp only [findB, h b (by simp), Bool.false_eq_true, if_false]; exact findB_none fun x hx => h x (by simp [hx])
theorem findB_some {id : Int} {b : Bd} {post : List Bd} (hb : (b.v == id) = true) : ∀ {pre : List Bd}, (∀ x ∈ pre, (x.v == id) = false) → findB (pre ++ b :: post) id = some b.t
  | [], _ => by simp only [List.nil_append, findB, hb, if_true]
  | x :: pre, h => by simp only [List.cons_append, findB, h x (by simp), Bool.false_eq_true, if_false]; exact findB_some hb fun y hy => h y (by simp [hy])
def subG (s : List Bd) (u : Ty) : Ty × Bool := if u.kd == 1 then (match findB s u.id with | some t => (t, true) | none => (u, false)) else (u, false)
def subT (s : List Bd) (t : Ty) : Ty := mapT (subG s) t
theorem scal_enc (t : Ty) : t.enc.scal = false := by cases t; rfl
def encI (xs : List Int) : List PV := xs.map fun x => ii x
theorem encI_len (ts : List Int) : (encI ts).length = ts.length := by simp [encI]
theorem encI_at (ts us : List Int) (t : Int) : (encI (ts ++ t :: us))[ts.length]? = some (ii t) := by simp [encI]
end Go.Proofs.Ytgphapkpoamcgaa
/- Types: FreeVars. -/
set_option maxRecDepth 10000
set_option linter.unusedSimpArgs false
set_option linter.unusedVariables false
namespace Go.Proofs.Ytgphapkpoamcgaa
open Go Go.Ab
mutual
def afv : Ty → List Int → List Int
  | .mk k id ss, xs => afvL ss (if (if k == 1 then !(xs.any fun x => id == x) else false) then xs ++ [id] else xs)
def afvL : List Ty → List Int → List Int
  | [], xs => xs
  | t :: ts, xs => afvL ts (afv t xs)
end
mutual
theorem afv_mono : ∀ (t : Ty) (xs : List Int), xs.length ≤ (afv t xs).length
  | .mk k id ss, xs => by
    simp only [afv]
    refine Nat.le_trans ?_ (afvL_mono ss _)
    by_cases h : (if k == 1 then !(xs.any fun x => id == x) else false) = true
    · rw [if_pos h]; simp
    · rw [if_neg h]; exact Nat.le_refl _
theorem afvL_mono : ∀ (ts : List Ty) (xs : List Int), xs.length ≤ (afvL ts xs).length
  | [], xs => Nat.le_refl _
  | t :: ts, xs => Nat.le_trans (afv_mono t xs) (afvL_mono ts _)
end
theorem ok_memL : ∀ {ss : List Ty} {t : Ty}, PV.okL (encL ss) → t ∈ ss → t.enc.ok
  | [], _, _, h => by cases h
  | s :: ss, t, hok, h => by
    simp only [encL, PV.okL] at hok
    rcases List.mem_cons.1 h with rfl | h
    · exact hok.1
    · exact ok_memL hok.2 h
theorem ok_mem {k id : Int} {ss : List Ty} {t : Ty} (hok : (Ty.mk k id ss).enc.ok) (h : t ∈ ss) : t.enc.ok := by
  simp only [Ty.enc, PV.ok, PV.okL] at hok
  exact ok_memL hok.2.2.1.2 h
def cI (x : Int) : List V := [.pv (ii x)]
abbrev rowI (xs : List Int) : Blk := ⟨false, 3, 1, xs.map cI, none⟩
theorem VwE_ii {h : HF} {B : List Nat} : ∀ (xs : List Int), VwE h B 1 (xs.map cI) (encI xs)
  | [] => .nil _
  | x :: xs => .cons _ _ _ _ _ rfl (.cons _ _ _ _ (.pv _) .nil) (VwE_ii xs)
theorem row_ii {h : HF} {B : List Nat} {b : Nat} {fl ro : Bool} {ty : Nat} {xs : List Int} {tg : Option (Nat × Nat × Nat)} (hb : b ∈ B) (hk : h b = some ⟨ro, ty, 1, xs.map cI, tg⟩) : Vw h B (.row b xs.length fl) (.list 1 (encI xs)) :=
  row_view hb hk (by simp) (VwE_ii xs)
theorem renL_cI {ρ : Nat → Nat} (xs : List Int) : (xs.map cI).map (V.renL ρ) = xs.map cI := by
  rw [List.map_map]; exact List.map_congr_left fun p _ => rfl
theorem allL_cI {S : Nat → Prop} (xs : List Int) : allL S (xs.map cI) = True := by
  simp only [allL_iff, eq_iff_iff, iff_true]
  intro cs hcs
  obtain ⟨p, _, rfl⟩ := List.mem_map.1 hcs
  simp [cI, V.bdL, V.bd]
theorem renL_cI1 {ρ : Nat → Nat} (x : Int) : V.renL ρ (cI x) = cI x := rfl
theorem bdL_cI1 {S : Nat → Prop} (x : Int) : V.bdL S (cI x) = True := by simp [cI, V.bdL, V.bd]
theorem bd_cI {S : Nat → Prop} {xs : List Int} : ∀ cs ∈ xs.map cI, V.bdL S cs := by
  intro cs hcs
  obtain ⟨p, _, rfl⟩ := List.mem_map.1 hcs
  simp [cI, V.bdL, V.bd]
theorem HpOk_nil : HpOk [] := ⟨fun b k e => by simp [hget] at e, fun b k e => by simp [hget] at e⟩
theorem HpOk_row (xs : List Int) : HpOk [some (rowI xs)] := by
  refine ⟨fun b k e => ?_, fun b k e => ?_⟩ <;> (cases b with
    | zero => simp only [hget, List.getElem?_cons_zero, Option.join_some, Option.some.injEq] at e; subst e; first | rfl | exact bd_cI
    | succ b => simp [hget] at e)
theorem HpOk_row1 (xs : List Int) : HpOk [none, some (rowI xs)] := by
  refine ⟨fun b k e => ?_, fun b k e => ?_⟩ <;> (match b, e with
    | 0, e => simp [hget] at e
    | 1, e => simp only [hget, List.getElem?_cons_zero, List.getElem?_cons_succ, Option.join_some, Option.some.injEq] at e; subst e; first | rfl | exact bd_cI
    | b + 2, e => simp [hget] at e)
theorem LV_one (xs : List Int) : ∀ b, b < [some (rowI xs)].length → LV [some (rowI xs)] b := fun b hb => by
  have : b = 0 := by simpa using hb
  subst this; exact ⟨_, rfl⟩
/-- rows as a callee sees them -/
theorem hh_row {h : HF} {ρ : List Nat} {nb : Nat} {xs : List Int} {tg : Option (Nat × Nat × Nat)} (e : h (rho ρ nb 0) = some ⟨false, 3, 1, xs.map cI, tg⟩) :
    ∀ i k, hget [some (rowI xs)] i = some k → ∃ k', h (rho ρ nb i) = some k' ∧ BlkWk (rho ρ nb) k' k := fun i k ek => by
  cases i with
  | zero =>
    simp only [hget, List.getElem?_cons_zero, Option.join_some, Option.some.injEq] at ek
    subst ek
    exact ⟨_, e, .of (k := rowI xs) (by rw [renL_cI]; exact WkX.refl _)⟩
  | succ i => simp [hget] at ek
theorem hh_nil {h : HF} {ρ : List Nat} {nb : Nat} : ∀ i k, hget [] i = some k → ∃ k', h (rho ρ nb i) = some k' ∧ BlkWk (rho ρ nb) k' k := fun i k ek => by simp [hget] at ek
theorem rho0 {b : Nat} {ρ : List Nat} {nb : Nat} : rho (b :: ρ) nb 0 = b := rfl
theorem rho1 {nb b : Nat} : rho [b] nb 1 = nb := rfl
theorem rhoN {nb : Nat} : rho [] nb 0 = nb := rfl
theorem tag0 {m : Nat → Nat × Nat × Nat} {F : List Int} : tagN m 1 0 [none, some (rowI F)] = [none, some (rowI F)] := rfl
def outV : List Int → V
  | [] => .pv (.lit (.slice none 0 0))
  | x :: xs => .row 0 (x :: xs).length false
def outH : List Int → Hp
  | [] => []
  | x :: xs => [some (rowI (x :: xs))]
theorem ret_row {rs : List RV} {F : List Int} {m : Nat → Nat × Nat × Nat} {fr : Fr} {T : Blk} (hr : resVs fr [some T, some (rowI F)] rs = some [.row 1 F.length false]) (hne : F ≠ []) : retM rs (outV F) 0 (outH F) m .ret fr [some T, some (rowI F)] := by
  cases F with
  | nil => exact absurd rfl hne
  | cons x xs =>
    refine ⟨_, hr, fun b => [1].getD b 0, ?_⟩
    simp only [outV, outH, tagN, Option.map_some, Nat.lt_irrefl, if_false]
    exact (LeB [1] (by refine ⟨?_, ?_, ?_⟩ <;> simp only [leFr, leFb, leHp, V.ren, V.renL, V.bd, V.bdL, allL, lt, Go.Ab.get, hget, List.map_cons, List.map_nil, List.length_cons, List.length_nil, List.length_append, List.getElem?_cons_zero, List.getElem?_cons_succ, List.getElem?_nil, Option.join_some, Option.join_none, List.getD_cons_zero, List.getD_cons_succ, List.getD_nil, Nat.reduceAdd, Nat.reduceLT, Nat.reduceEqDiff, Nat.zero_add, reduceIte, if_true, if_false, and_true, true_and, renL_vcells, allL_vcells, renL_pv, leBlk_some, eq_self, true_or, or_true, reduceCtorEq, false_or, renL_cI, renL_cI1, allL_cI, bdL_cI1, allL_app, List.map_cons, allL, oneW]))
theorem ret_nil {rs : List RV} {m : Nat → Nat × Nat × Nat} {fr : Fr} {H : Hp} (hr : resVs fr H rs = some [.pv (.lit (.slice none 0 0))]) : retM rs (outV []) 0 (outH []) m .ret fr H := by
  refine ⟨_, hr, fun b => [].getD b 0, ?_⟩
  simp only [outV, outH, tagN]
  exact (LeB [] (by refine ⟨?_, ?_, ?_⟩ <;> simp only [leFr, leFb, leHp, V.ren, V.renL, V.bd, V.bdL, allL, lt, Go.Ab.get, hget, List.map_cons, List.map_nil, List.length_cons, List.length_nil, List.length_append, List.getElem?_cons_zero, List.getElem?_cons_succ, List.getElem?_nil, Option.join_some, Option.join_none, List.getD_cons_zero, List.getD_cons_succ, List.getD_nil, Nat.reduceAdd, Nat.reduceLT, Nat.reduceEqDiff, Nat.zero_add, reduceIte, if_true, if_false, and_true, true_and, renL_vcells, allL_vcells, renL_pv, leBlk_some, eq_self, true_or, or_true, reduceCtorEq, false_or, oneW]))
def fvs (t : Ty) : List Int := afv t []
end Go.Proofs.Ytgphapkpoamcgaa
