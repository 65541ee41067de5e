/- A2: joined from S5 U1 U2 U3 U4 U5 U7. -/
import Derived.Test.YtbdoblgofddhdaaFnU
import Derived.Test.YtbdoblgofddhdaaA1
/- Types: FreeVars. -/
set_option maxRecDepth 10000
set_option linter.unusedSimpArgs false
set_option linter.unusedVariables false
namespace Go.Proofs.Ytbdoblgofddhdaa
open Go Go.Ab
mutual
def afv : Ty → List Int → List Int
  | .mk k id ss, xs => afvL ss (if (if k == 1 then !(xs.any fun x => id == x) else false) then xs ++ [id] else xs)
def afvL : List Ty → List Int → List Int
  | [], xs => xs
  | t :: ts, xs => afvL ts (afv t xs)
end
mutual
theorem afv_mono : ∀ (t : Ty) (xs : List Int), xs.length ≤ (afv t xs).length
  | .mk k id ss, xs => by
    simp only [afv]
    refine Nat.le_trans ?_ (afvL_mono ss _)
    by_cases h : (if k == 1 then !(xs.any fun x => id == x) else false) = true
    · rw [if_pos h]; simp
    · rw [if_neg h]; exact Nat.le_refl _
theorem afvL_mono : ∀ (ts : List Ty) (xs : List Int), xs.length ≤ (afvL ts xs).length
  | [], xs => Nat.le_refl _
  | t :: ts, xs => Nat.le_trans (afv_mono t xs) (afvL_mono ts _)
end
theorem ok_memL : ∀ {ss : List Ty} {t : Ty}, PV.okL (encL ss) → t ∈ ss → t.enc.ok
  | [], _, _, h => by cases h
  | s :: ss, t, hok, h => by
    simp only [encL, PV.okL] at hok
    rcases List.mem_cons.1 h with rfl | h
    · exact hok.1
    · exact ok_memL hok.2 h
theorem ok_mem {k id : Int} {ss : List Ty} {t : Ty} (hok : (Ty.mk k id ss).enc.ok) (h : t ∈ ss) : t.enc.ok := by
  simp only [Ty.enc, PV.ok, PV.okL] at hok
  exact ok_memL hok.2.2.1.2 h
def cI (x : Int) : List V := [.pv (ii x)]
abbrev rowI (xs : List Int) : Blk := ⟨false, 3, 1, xs.map cI, none⟩
theorem VwE_ii {h : HF} {B : List Nat} : ∀ (xs : List Int), VwE h B 1 (xs.map cI) (encI xs)
  | [] => .nil _
  | x :: xs => .cons _ _ _ _ _ rfl (.cons _ _ _ _ (.pv _) .nil) (VwE_ii xs)
theorem row_ii {h : HF} {B : List Nat} {b : Nat} {fl ro : Bool} {ty : Nat} {xs : List Int} {tg : Option (Nat × Nat × Nat)} (hb : b ∈ B) (hk : h b = some ⟨ro, ty, 1, xs.map cI, tg⟩) : Vw h B (.row b xs.length fl) (.list 1 (encI xs)) :=
  row_view hb hk (by simp) (VwE_ii xs)
theorem renL_cI {ρ : Nat → Nat} (xs : List Int) : (xs.map cI).map (V.renL ρ) = xs.map cI := by
  rw [List.map_map]; exact List.map_congr_left fun p _ => rfl
theorem allL_cI {S : Nat → Prop} (xs : List Int) : allL S (xs.map cI) = True := by
  simp only [allL_iff, eq_iff_iff, iff_true]
  intro cs hcs
  obtain ⟨p, _, rfl⟩ := List.mem_map.1 hcs
  simp [cI, V.bdL, V.bd]
theorem renL_cI1 {ρ : Nat → Nat} (x : Int) : V.renL ρ (cI x) = cI x := rfl
theorem bdL_cI1 {S : Nat → Prop} (x : Int) : V.bdL S (cI x) = True := by simp [cI, V.bdL, V.bd]
theorem bd_cI {S : Nat → Prop} {xs : List Int} : ∀ cs ∈ xs.map cI, V.bdL S cs := by
  intro cs hcs
  obtain ⟨p, _, rfl⟩ := List.mem_map.1 hcs
  simp [cI, V.bdL, V.bd]
theorem HpOk_nil : HpOk [] := ⟨fun b k e => by simp [hget] at e, fun b k e => by simp [hget] at e⟩
theorem HpOk_row (xs : List Int) : HpOk [some (rowI xs)] := by
  refine ⟨fun b k e => ?_, fun b k e => ?_⟩ <;> (cases b with
    | zero => simp only [hget, List.getElem?_cons_zero, Option.join_some, Option.some.injEq] at e; subst e; first | rfl | exact bd_cI
    | succ b => simp [hget] at e)
theorem HpOk_row1 (xs : List Int) : HpOk [none, some (rowI xs)] := by
  refine ⟨fun b k e => ?_, fun b k e => ?_⟩ <;> (match b, e with
    | 0, e => simp [hget] at e
    | 1, e => simp only [hget, List.getElem?_cons_zero, List.getElem?_cons_succ, Option.join_some, Option.some.injEq] at e; subst e; first | rfl | exact bd_cI
    | b + 2, e => simp [hget] at e)
theorem LV_one (xs : List Int) : ∀ b, b < [some (rowI xs)].length → LV [some (rowI xs)] b := fun b hb => by
  have : b = 0 := by simpa using hb
  subst this; exact ⟨_, rfl⟩
/-- rows as a callee sees them -/
theorem hh_row {h : HF} {ρ : List Nat} {nb : Nat} {xs : List Int} {tg : Option (Nat × Nat × Nat)} (e : h (rho ρ nb 0) = some ⟨false, 3, 1, xs.map cI, tg⟩) :
    ∀ i k, hget [some (rowI xs)] i = some k → ∃ k', h (rho ρ nb i) = some k' ∧ BlkWk (rho ρ nb) k' k := fun i k ek => by
  cases i with
  | zero =>
    simp only [hget, List.getElem?_cons_zero, Option.join_some, Option.some.injEq] at ek
    subst ek
    exact ⟨_, e, .of (k := rowI xs) (by rw [renL_cI]; exact WkX.refl _)⟩
  | succ i => simp [hget] at ek
theorem hh_nil {h : HF} {ρ : List Nat} {nb : Nat} : ∀ i k, hget [] i = some k → ∃ k', h (rho ρ nb i) = some k' ∧ BlkWk (rho ρ nb) k' k := fun i k ek => by simp [hget] at ek
theorem rho0 {b : Nat} {ρ : List Nat} {nb : Nat} : rho (b :: ρ) nb 0 = b := rfl
theorem rho1 {nb b : Nat} : rho [b] nb 1 = nb := rfl
theorem rhoN {nb : Nat} : rho [] nb 0 = nb := rfl
theorem tag0 {m : Nat → Nat × Nat × Nat} {F : List Int} : tagN m 1 0 [none, some (rowI F)] = [none, some (rowI F)] := rfl
def outV : List Int → V
  | [] => .pv (.lit (.slice none 0 0))
  | x :: xs => .row 0 (x :: xs).length false
def outH : List Int → Hp
  | [] => []
  | x :: xs => [some (rowI (x :: xs))]
theorem ret_row {rs : List RV} {F : List Int} {m : Nat → Nat × Nat × Nat} {fr : Fr} {T : Blk} (hr : resVs fr [some T, some (rowI F)] rs = some [.row 1 F.length false]) (hne : F ≠ []) : retM rs (outV F) 0 (outH F) m .ret fr [some T, some (rowI F)] := by
  cases F with
  | nil => exact absurd rfl hne
  | cons x xs =>
    refine ⟨_, hr, fun b => [1].getD b 0, ?_⟩
    simp only [outV, outH, tagN, Option.map_some, Nat.lt_irrefl, if_false]
    exact (LeB [1] (by refine ⟨?_, ?_, ?_⟩ <;> simp only [leFr, leFb, leHp, V.ren, V.renL, V.bd, V.bdL, allL, lt, Go.Ab.get, hget, List.map_cons, List.map_nil, List.length_cons, List.length_nil, List.length_append, List.getElem?_cons_zero, List.getElem?_cons_succ, List.getElem?_nil, Option.join_some, Option.join_none, List.getD_cons_zero, List.getD_cons_succ, List.getD_nil, Nat.reduceAdd, Nat.reduceLT, Nat.reduceEqDiff, Nat.zero_add, reduceIte, if_true, if_false, and_true, true_and, renL_vcells, allL_vcells, renL_pv, leBlk_some, eq_self, true_or, or_true, reduceCtorEq, false_or, renL_cI, renL_cI1, allL_cI, bdL_cI1, allL_app, List.map_cons, allL, oneW]))
theorem ret_nil {rs : List RV} {m : Nat → Nat × Nat × Nat} {fr : Fr} {H : Hp} (hr : resVs fr H rs = some [.pv (.lit (.slice none 0 0))]) : retM rs (outV []) 0 (outH []) m .ret fr H := by
  refine ⟨_, hr, fun b => [].getD b 0, ?_⟩
  simp only [outV, outH, tagN]
  exact (LeB [] (by refine ⟨?_, ?_, ?_⟩ <;> simp only [leFr, leFb, leHp, V.ren, V.renL, V.bd, V.bdL, allL, lt, Go.Ab.get, hget, List.map_cons, List.map_nil, List.length_cons, List.length_nil, List.length_append, List.getElem?_cons_zero, List.getElem?_cons_succ, List.getElem?_nil, Option.join_some, Option.join_none, List.getD_cons_zero, List.getD_cons_succ, List.getD_nil, Nat.reduceAdd, Nat.reduceLT, Nat.reduceEqDiff, Nat.zero_add, reduceIte, if_true, if_false, and_true, true_and, renL_vcells, allL_vcells, renL_pv, leBlk_some, eq_self, true_or, or_true, reduceCtorEq, false_or, oneW]))
def fvs (t : Ty) : List Int := afv t []
end Go.Proofs.Ytbdoblgofddhdaa
/- scheme's matcher: a method that writes its receiver. -/
set_option maxRecDepth 10000
set_option linter.unusedSimpArgs false
set_option linter.unusedVariables false
namespace Go.Proofs.Ytbdoblgofddhdaa
open Go Go.Ab
def cB (x : Bool) : List V := [.pv (bb x)]
theorem renL_cB {ρ : Nat → Nat} (xs : List Bool) : (xs.map cB).map (V.renL ρ) = xs.map cB := by
  rw [List.map_map]; exact List.map_congr_left fun p _ => rfl
theorem bd_cB {S : Nat → Prop} {xs : List Bool} : ∀ cs ∈ xs.map cB, V.bdL S cs := by
  intro cs hcs
  obtain ⟨p, _, rfl⟩ := List.mem_map.1 hcs
  simp [cB, V.bdL, V.bd]
theorem allL_cB {S : Nat → Prop} (xs : List Bool) : allL S (xs.map cB) = True := by
  simp only [allL_iff, eq_iff_iff, iff_true]; exact bd_cB
theorem bd_tc {S : Nat → Prop} {xs : List Ty} : ∀ cs ∈ xs.map Ty.tc, V.bdL S cs := by
  intro cs hcs
  obtain ⟨p, _, rfl⟩ := List.mem_map.1 hcs
  simp [Ty.tc, V.bdL, V.bd]
def mM (ps : List Int) : List (List V) := [[.pv (.list 1 (encI ps)), .row 1 ps.length true, .row 2 ps.length true]]
/-- the matcher's blocks -/
def mH (ps : List Int) (As : List Ty) (Bs : List Bool) : Hp := [some ⟨false, 231, 3, mM ps, none⟩, some ⟨false, 26, 3, As.map Ty.tc, none⟩, some ⟨false, 4, 1, Bs.map cB, none⟩]
theorem mH_LV (ps : List Int) (As : List Ty) (Bs : List Bool) : ∀ b, b < (mH ps As Bs).length → LV (mH ps As Bs) b := fun b hb => by
  match b, hb with
  | 0, _ => exact ⟨_, rfl⟩
  | 1, _ => exact ⟨_, rfl⟩
  | 2, _ => exact ⟨_, rfl⟩
  | b + 3, hb => simp [mH] at hb; omega
theorem mH_get {ps : List Int} {As : List Ty} {Bs : List Bool} {b : Nat} {k : Blk} (e : hget (mH ps As Bs) b = some k) :
    (b = 0 ∧ k = ⟨false, 231, 3, mM ps, none⟩) ∨ (b = 1 ∧ k = ⟨false, 26, 3, As.map Ty.tc, none⟩) ∨ (b = 2 ∧ k = ⟨false, 4, 1, Bs.map cB, none⟩) := by
  match b, e with
  | 0, e => left; simp [mH, hget] at e; exact ⟨rfl, e.symm⟩
  | 1, e => right; left; simp [mH, hget] at e; exact ⟨rfl, e.symm⟩
  | 2, e => right; right; simp [mH, hget] at e; exact ⟨rfl, e.symm⟩
  | b + 3, e => simp [mH, hget] at e
theorem mH_ok (ps : List Int) (As : List Ty) (Bs : List Bool) : HpOk (mH ps As Bs) := by
  refine ⟨fun b k e => ?_, fun b k e cs hcs => ?_⟩
  · rcases mH_get e with ⟨_, rfl⟩ | ⟨_, rfl⟩ | ⟨_, rfl⟩ <;> rfl
  · rcases mH_get e with ⟨_, rfl⟩ | ⟨_, rfl⟩ | ⟨_, rfl⟩
    · simp only [mM, List.mem_singleton] at hcs
      subst hcs
      exact ⟨trivial, ⟨_, rfl⟩, ⟨_, rfl⟩, trivial⟩
    · exact bd_tc cs hcs
    · exact bd_cB cs hcs
theorem mH_hh {h : HF} {a b c nb : Nat} {ps : List Int} {As : List Ty} {Bs : List Bool} {t0 t1 t2 : Option (Nat × Nat × Nat)} {Xs : List (List V)}
    (h0 : h a = some ⟨false, 231, 3, [[.pv (.list 1 (encI ps)), .row b ps.length true, .row c ps.length true]], t0⟩) (h1 : h b = some ⟨false, 26, 3, Xs, t1⟩) (h2 : h c = some ⟨false, 4, 1, Bs.map cB, t2⟩) (ha : WkX Xs (As.map Ty.tc)) :
    ∀ i k, hget (mH ps As Bs) i = some k → ∃ k', h (rho [a, b, c] nb i) = some k' ∧ BlkWk (rho [a, b, c] nb) k' k := fun i k e => by
  rcases mH_get e with ⟨rfl, rfl⟩ | ⟨rfl, rfl⟩ | ⟨rfl, rfl⟩
  · exact ⟨_, h0, rfl, rfl, rfl, WkX.refl _⟩
  · exact ⟨_, h1, rfl, rfl, rfl, by simp only [renL_tc]; exact ha⟩
  · exact ⟨_, h2, rfl, rfl, rfl, by simp only [renL_cB]; exact WkX.refl _⟩
theorem setB {Bs : List Bool} {i : Nat} : (Bs.map cB).set i [.pv (bb true)] = (Bs.set i true).map cB := by rw [List.map_set]; rfl
theorem setA {As : List Ty} {i : Nat} {t : Ty} : (As.map Ty.tc).set i [.pv (ii t.kd), .pv (ii t.id), .pv (.list 3 (encL t.args))] = (As.set i t).map Ty.tc := by rw [List.map_set]; rfl
def zT : Ty := .mk 0 0 []
theorem getB {Bs : List Bool} {i : Nat} (h : i < Bs.length) : (Bs.map cB)[i]? = some (cB (Bs.getD i false)) := by
  rw [List.getElem?_map, List.getElem?_eq_getElem h, List.getD_eq_getElem?_getD, List.getElem?_eq_getElem h]; rfl
theorem getA {As : List Ty} {i : Nat} (h : i < As.length) : (As.map Ty.tc)[i]? = some (As.getD i zT).tc := by
  rw [List.getElem?_map, List.getElem?_eq_getElem h, List.getD_eq_getElem?_getD, List.getElem?_eq_getElem h]; rfl
mutual
/-- the pattern, the type, what the parameters stand for so far -/
def mch (ps : List Int) : Ty → Ty → List Ty → List Bool → Bool × List Ty × List Bool
  | .mk k id qs, t, As, Bs =>
    if (if k == 2 then decide (idxF (fun x => id == x) ps 0 ≥ 0) else false) then
      if Bs.getD (idxF (fun x => id == x) ps 0).toNat false then (eqT (As.getD (idxF (fun x => id == x) ps 0).toNat zT) t, As, Bs)
      else (true, As.set (idxF (fun x => id == x) ps 0).toNat t, Bs.set (idxF (fun x => id == x) ps 0).toNat true)
    else if (if (if !(t.kd == k) then true else !(t.id == id)) then true else !((t.args.length : Int) == qs.length)) then (false, As, Bs)
    else mchL ps qs t.args As Bs
def mchL (ps : List Int) : List Ty → List Ty → List Ty → List Bool → Bool × List Ty × List Bool
  | [], _, As, Bs => (true, As, Bs)
  | _ :: _, [], As, Bs => (true, As, Bs)
  | q :: qs, t :: ts, As, Bs => if (mch ps q t As Bs).1 then mchL ps qs ts (mch ps q t As Bs).2.1 (mch ps q t As Bs).2.2 else (false, (mch ps q t As Bs).2)
end
/-- does the pattern stand for a parameter? -/
def isPar (ps : List Int) (k id : Int) : Bool := if k == 2 then decide (idxF (fun x => id == x) ps 0 ≥ 0) else false
def parI (ps : List Int) (id : Int) : Nat := (idxF (fun x => id == x) ps 0).toNat
theorem mch_par {ps : List Int} {k id : Int} (qs : List Ty) (t : Ty) (As : List Ty) (Bs : List Bool) (h : isPar ps k id = true) :
    mch ps (.mk k id qs) t As Bs = if Bs.getD (parI ps id) false then (eqT (As.getD (parI ps id) zT) t, As, Bs) else (true, As.set (parI ps id) t, Bs.set (parI ps id) true) := by
  unfold isPar at h; simp only [mch, h, if_true]; rfl
theorem mch_not {ps : List Int} {k id : Int} (qs : List Ty) (t : Ty) (As : List Ty) (Bs : List Bool) (h : isPar ps k id = false) :
    mch ps (.mk k id qs) t As Bs = if t.kd == k ∧ t.id == id ∧ (t.args.length : Int) == qs.length then mchL ps qs t.args As Bs else (false, As, Bs) := by
  unfold isPar at h; simp only [mch, h, Bool.false_eq_true, if_false]
  cases (t.kd == k) <;> cases (t.id == id) <;> cases ((t.args.length : Int) == qs.length) <;> simp
theorem mch_no {ps : List Int} {k id : Int} (qs : List Ty) (t : Ty) (As : List Ty) (Bs : List Bool) (h : isPar ps k id = false) (hc : ¬ (t.kd == k ∧ t.id == id ∧ (t.args.length : Int) == qs.length)) : mch ps (.mk k id qs) t As Bs = (false, As, Bs) := by
  rw [mch_not qs t As Bs h, if_neg hc]
theorem mch_yes {ps : List Int} {k id : Int} (qs : List Ty) (t : Ty) (As : List Ty) (Bs : List Bool) (h : isPar ps k id = false) (hc : t.kd == k ∧ t.id == id ∧ (t.args.length : Int) == qs.length) : mch ps (.mk k id qs) t As Bs = mchL ps qs t.args As Bs := by
  rw [mch_not qs t As Bs h, if_pos hc]
mutual
theorem mch_len (ps : List Int) : ∀ (p t : Ty) (As : List Ty) (Bs : List Bool), (mch ps p t As Bs).2.1.length = As.length ∧ (mch ps p t As Bs).2.2.length = Bs.length
  | .mk k id qs, t, As, Bs => by
    cases h : isPar ps k id with
    | true =>
      rw [mch_par qs t As Bs h]
      cases Bs.getD (parI ps id) false <;> simp
    | false =>
      rw [mch_not qs t As Bs h]
      by_cases hc : t.kd == k ∧ t.id == id ∧ (t.args.length : Int) == qs.length
      · rw [if_pos hc]; exact mchL_len ps qs t.args As Bs
      · rw [if_neg hc]; exact ⟨rfl, rfl⟩
theorem mchL_len (ps : List Int) : ∀ (qs ts : List Ty) (As : List Ty) (Bs : List Bool), (mchL ps qs ts As Bs).2.1.length = As.length ∧ (mchL ps qs ts As Bs).2.2.length = Bs.length
  | [], ts, As, Bs => by simp [mchL]
  | _ :: _, [], As, Bs => by simp [mchL]
  | q :: qs, t :: ts, As, Bs => by
    simp only [mchL]
    have h := mch_len ps q t As Bs
    by_cases hc : (mch ps q t As Bs).1 = true
    · rw [if_pos hc]
      have h2 := mchL_len ps qs ts (mch ps q t As Bs).2.1 (mch ps q t As Bs).2.2
      exact ⟨h2.1.trans h.1, h2.2.trans h.2⟩
    · rw [if_neg hc]; exact h
end
/-- the matcher's blocks under their machine names -/
def mT (m : Nat → Nat × Nat × Nat) (ps : List Int) (As : List Ty) (Bs : List Bool) (T : Hp) : Hp :=
  some ⟨false, 231, 3, [[.pv (.list 1 (encI ps)), .row 1 ps.length true, .row 2 ps.length true]], some (m 0)⟩ :: some ⟨false, 26, 3, As.map Ty.tc, some (m 1)⟩ :: some ⟨false, 4, 1, Bs.map cB, some (m 2)⟩ :: T
theorem mH_tag (m : Nat → Nat × Nat × Nat) (ps : List Int) (As : List Ty) (Bs : List Bool) : tagN m 3 0 (mH ps As Bs) = mT m ps As Bs [] := rfl
theorem retM_m {rs : List RV} {fr : Fr} {m : Nat → Nat × Nat × Nat} {ps : List Int} {As : List Ty} {Bs : List Bool} {T : Hp} {r : Bool} (hr : resVs fr (mT m ps As Bs T) rs = some [.pv (bb r)]) :
    retM rs (.pv (bb r)) 3 (mH ps As Bs) m .ret fr (mT m ps As Bs T) := by
  refine ⟨_, hr, fun b => [0, 1, 2].getD b 0, ?_⟩
  rw [mH_tag]
  unfold mT
  exact (LeB [0, 1, 2] (by refine ⟨?_, ?_, ?_⟩ <;> simp only [leFr, leFb, leHp, V.ren, V.renL, V.bd, V.bdL, allL, lt, Go.Ab.get, hget, List.map_cons, List.map_nil, List.length_cons, List.length_nil, List.length_append, List.getElem?_cons_zero, List.getElem?_cons_succ, List.getElem?_nil, Option.join_some, Option.join_none, List.getD_cons_zero, List.getD_cons_succ, List.getD_nil, Nat.reduceAdd, Nat.reduceLT, Nat.reduceEqDiff, Nat.zero_add, reduceIte, if_true, if_false, and_true, true_and, renL_vcells, allL_vcells, renL_pv, leBlk_some, eq_self, true_or, or_true, reduceCtorEq, false_or, renL_tc, allL_tc, renL_cB, allL_cB, oneW]))
theorem mH_out {h : HF} {a b c nb : Nat} (ps : List Int) (As : List Ty) (Bs : List Bool) : outD h [a, b, c] nb [a, b, c] (mH ps As Bs) =
    [(a, some ⟨false, 231, 3, [[.pv (.list 1 (encI ps)), .row b ps.length true, .row c ps.length true]], (h a).bind fun x => x.tag⟩), (b, some ⟨false, 26, 3, As.map Ty.tc, (h b).bind fun x => x.tag⟩), (c, some ⟨false, 4, 1, Bs.map cB, (h c).bind fun x => x.tag⟩)] := by
  simp only [mH, mM, outD, outB, Option.map_some, renL_tc, renL_cB]
  rfl
set_option maxHeartbeats 8000000 in
theorem match_ok (ps : List Int) : ∀ (p t : Ty) (As : List Ty) (Bs : List Bool), As.length = ps.length → Bs.length = ps.length → t.enc.ok →
    MCall Try.prog 205 [.ptr 0 0 0, .pv t.enc, .pv p.enc] (mH ps As Bs) (.pv (bb (mch ps p t As Bs).1)) (mH ps (mch ps p t As Bs).2.1 (mch ps p t As Bs).2.2)
  | .mk k id qs, .mk k' id' ts, As, Bs, hA, hB, hok => by
    have hrec : ∀ q ∈ qs, ∀ (t : Ty) (As : List Ty) (Bs : List Bool), As.length = ps.length → Bs.length = ps.length → t.enc.ok →
      MCall Try.prog 205 [.ptr 0 0 0, .pv t.enc, .pv q.enc] (mH ps As Bs) (.pv (bb (mch ps q t As Bs).1)) (mH ps (mch ps q t As Bs).2.1 (mch ps q t As Bs).2.2) := fun q hq t As Bs h1 h2 h3 => match_ok ps q t As Bs h1 h2 h3
    have hss : ts.length ≤ 1099511627776 := by
      simp only [Ty.enc, PV.ok, PV.okL, encL_len, big] at hok; exact hok.2.2.1.1
    refine MCall.intro fn205 (by simp) (by simp [mH]) (by simp [mH]) (mH_LV _ _ _) (mH_ok _ _ _) (mH_ok _ _ _) ⟨⟨_, rfl⟩, trivial, trivial, trivial⟩ trivial fun m => ?_
    have hc := idxI_ok ps id
    rw [show (mH ps As Bs).length = 3 from rfl, mH_tag]
    unfold ac205 mT
    simp only [argFrV, Nat.zero_add, Nat.reduceAdd]
    cases hpar : isPar ps k id with
    | true =>
      clear hrec
      have hpar' := hpar
      unfold isPar at hpar'
      have hk : (k == 2) = true := by
        cases h : (k == 2) with
        | true => rfl
        | false => rw [h] at hpar'; cases hpar'
      rw [hk, if_pos rfl] at hpar'
      rcases idxF_spec (fun x => id == x) ps 0 with ⟨e, hn⟩ | ⟨pre, b, post, hps, hb, e, hn⟩
      · rw [e] at hpar'; cases hpar'
      have hi : pre.length < ps.length := by rw [hps]; simp
      have hp : parI ps id = pre.length := by unfold parI; rw [e]; simp
      simp only [Nat.zero_add] at e
      have hge : decide ((pre.length : Int) ≥ 0) = true := by simp
      have hres := mch_par qs (.mk k' id' ts) As Bs hpar
      rw [hp] at hres
      rw [e] at hc
      have gA := getA (As := As) (i := pre.length) (by omega)
      have gB := getB (Bs := Bs) (i := pre.length) (by omega)
      have hq := equal_ok (As.getD pre.length zT) (.mk k' id' ts)
      have hcl := clone_ok (.mk k' id' ts)
      cases hbd : Bs.getD pre.length false with
      | true =>
        rw [hbd] at gB
        rw [hbd, if_pos rfl] at hres
        rw [hres]
        (repeat' (first | ((first | (with_reducible refine qqV fun C hC => ?_) | (with_reducible refine qqW fun C hC => ?_) | ((with_reducible intro C hC); (with_reducible refine qqX ?_))); (first | (simp only [go_sem, cells_enc, Ty.tc, Ty.kd, Ty.id, Ty.args, encL_len, hk, hge, hi, gA, gB, cB, List.length_map, hA, hB]; (first | ((with_reducible apply ACall.pure0 [] (hc)); (focus (exact vwA))) | ((with_reducible apply ACall.pure0 [] (hq)); (focus (exact vwA))) | ((with_reducible apply ACall.pure0 [] (hcl)); (focus (exact vwA)))))); (simp only [go_sem, cells_enc, Ty.tc, Ty.kd, Ty.id, Ty.args, encL_len, hk, hge, hi, gA, gB, cB, List.length_map, hA, hB]); ((with_reducible first | refine finA hC ?_ | refine finD hC ?_); clear hC C)) | ((with_reducible first | refine qqT fun C hC => ?_ | refine qqU fun C hC => ?_ | intro C hC); simp only [go_sem, cells_enc, Ty.tc, Ty.kd, Ty.id, Ty.args, encL_len, hk, hge, hi, gA, gB, cB, List.length_map, hA, hB]; ((with_reducible first | refine finA hC ?_ | refine finD hC ?_); clear hC C)) | (with_reducible first | refine qqA fun K hK => ?_ | refine qqB fun K hK => ?_ | refine qqC fun K hK => ?_ | (refine qqD ?_; refine hK _ _ ?_; try clear hK K) | (refine qqE ?_; refine hK _ _ _ ?_ ?_; (focus kernel_rfl); try clear hK K) | (refine qqF ?_; refine hK _ _ ?_; try clear hK K) | refine qqG ?_ | refine qqH ?_ | refine qqI ?_ | refine qqJ ?_ | refine qqK ?_ | (refine qqL ?_; try clear hK K) | (refine qqM ?_; try clear hK K) | refine qqN ?_ | refine qqO ?_ | (refine qqP ?_ ?_; focus decide)) | ((with_reducible first | apply qqQ | apply qqR | apply qqS); focus (simp only [go_sem, cells_enc, Ty.tc, Ty.kd, Ty.id, Ty.args, encL_len, hk, hge, hi, gA, gB, cB, List.length_map, hA, hB]; exact rfl)) | (with_reducible first | refine gk_tt ?_ | refine gk_ff ?_ | refine ck_t ?_ | refine ck_f ?_) | ((with_reducible first | refine gk_tf ?_ | refine gk_ft ?_ | refine gk_u ?_ | refine gk_u' ?_); first | (intro _ e; (first | rw [qqY] at e | rw [qqZ] at e); subst e) | (intro _ _ e e'; (first | rw [qqY] at e | rw [qqZ] at e); subst e; subst e'))))
        exact retM_m rfl
      | false =>
        rw [hbd] at gB
        rw [hbd, if_neg (by simp)] at hres
        rw [hres]
        (repeat' (first | ((first | (with_reducible refine qqV fun C hC => ?_) | (with_reducible refine qqW fun C hC => ?_) | ((with_reducible intro C hC); (with_reducible refine qqX ?_))); (first | (simp only [go_sem, cells_enc, Ty.tc, Ty.kd, Ty.id, Ty.args, encL_len, hk, hge, hi, gA, gB, cB, List.length_map, hA, hB]; (first | ((with_reducible apply ACall.pure0 [] (hc)); (focus (exact vwA))) | ((with_reducible apply ACall.pure0 [] (hq)); (focus (exact vwA))) | ((with_reducible apply ACall.pure0 [] (hcl)); (focus (exact vwA)))))); (simp only [go_sem, cells_enc, Ty.tc, Ty.kd, Ty.id, Ty.args, encL_len, hk, hge, hi, gA, gB, cB, List.length_map, hA, hB]); ((with_reducible first | refine finA hC ?_ | refine finD hC ?_); clear hC C)) | ((with_reducible first | refine qqT fun C hC => ?_ | refine qqU fun C hC => ?_ | intro C hC); simp only [go_sem, cells_enc, Ty.tc, Ty.kd, Ty.id, Ty.args, encL_len, hk, hge, hi, gA, gB, cB, List.length_map, hA, hB]; ((with_reducible first | refine finA hC ?_ | refine finD hC ?_); clear hC C)) | (with_reducible first | refine qqA fun K hK => ?_ | refine qqB fun K hK => ?_ | refine qqC fun K hK => ?_ | (refine qqD ?_; refine hK _ _ ?_; try clear hK K) | (refine qqE ?_; refine hK _ _ _ ?_ ?_; (focus kernel_rfl); try clear hK K) | (refine qqF ?_; refine hK _ _ ?_; try clear hK K) | refine qqG ?_ | refine qqH ?_ | refine qqI ?_ | refine qqJ ?_ | refine qqK ?_ | (refine qqL ?_; try clear hK K) | (refine qqM ?_; try clear hK K) | refine qqN ?_ | refine qqO ?_ | (refine qqP ?_ ?_; focus decide)) | ((with_reducible first | apply qqQ | apply qqR | apply qqS); focus (simp only [go_sem, cells_enc, Ty.tc, Ty.kd, Ty.id, Ty.args, encL_len, hk, hge, hi, gA, gB, cB, List.length_map, hA, hB]; exact rfl)) | (with_reducible first | refine gk_tt ?_ | refine gk_ff ?_ | refine ck_t ?_ | refine ck_f ?_) | ((with_reducible first | refine gk_tf ?_ | refine gk_ft ?_ | refine gk_u ?_ | refine gk_u' ?_); first | (intro _ e; (first | rw [qqY] at e | rw [qqZ] at e); subst e) | (intro _ _ e e'; (first | rw [qqY] at e | rw [qqZ] at e); subst e; subst e'))))
        rw [show (List.map Ty.tc As).set pre.length [V.pv (ii k'), V.pv (ii id'), V.pv (.list 3 (encL ts))] = (As.set pre.length (.mk k' id' ts)).map Ty.tc from setA (t := .mk k' id' ts), setB]
        exact retM_m rfl
    | false =>
      have hge : (k == 2) = true → decide (idxF (fun x => id == x) ps 0 ≥ 0) = false := fun h => by
        unfold isPar at hpar; rwa [h, if_pos rfl] at hpar
      cases hk : (k == 2)
      all_goals (try have hge := hge hk)
      all_goals
        cases h1 : (k' == k) with
        | false =>
          clear hrec
          rw [mch_no qs (.mk k' id' ts) As Bs hpar fun c => absurd c.1 (show ¬ ((k' == k) = true) by rw [h1]; simp)]
          (repeat' (first | ((first | (with_reducible refine qqV fun C hC => ?_) | (with_reducible refine qqW fun C hC => ?_) | ((with_reducible intro C hC); (with_reducible refine qqX ?_))); (first | (simp only [go_sem, cells_enc, Ty.tc, Ty.kd, Ty.id, Ty.args, encL_len, hk, hge, bne, h1]; (first | ((with_reducible apply ACall.pure0 [] (hc)); (focus (exact vwA)))))); (simp only [go_sem, cells_enc, Ty.tc, Ty.kd, Ty.id, Ty.args, encL_len, hk, hge, bne, h1]); ((with_reducible first | refine finA hC ?_ | refine finD hC ?_); clear hC C)) | ((with_reducible first | refine qqT fun C hC => ?_ | refine qqU fun C hC => ?_ | intro C hC); simp only [go_sem, cells_enc, Ty.tc, Ty.kd, Ty.id, Ty.args, encL_len, hk, hge, bne, h1]; ((with_reducible first | refine finA hC ?_ | refine finD hC ?_); clear hC C)) | (with_reducible first | refine qqA fun K hK => ?_ | refine qqB fun K hK => ?_ | refine qqC fun K hK => ?_ | (refine qqD ?_; refine hK _ _ ?_; try clear hK K) | (refine qqE ?_; refine hK _ _ _ ?_ ?_; (focus kernel_rfl); try clear hK K) | (refine qqF ?_; refine hK _ _ ?_; try clear hK K) | refine qqG ?_ | refine qqH ?_ | refine qqI ?_ | refine qqJ ?_ | refine qqK ?_ | (refine qqL ?_; try clear hK K) | (refine qqM ?_; try clear hK K) | refine qqN ?_ | refine qqO ?_ | (refine qqP ?_ ?_; focus decide)) | ((with_reducible first | apply qqQ | apply qqR | apply qqS); focus (simp only [go_sem, cells_enc, Ty.tc, Ty.kd, Ty.id, Ty.args, encL_len, hk, hge, bne, h1]; exact rfl)) | (with_reducible first | refine gk_tt ?_ | refine gk_ff ?_ | refine ck_t ?_ | refine ck_f ?_) | ((with_reducible first | refine gk_tf ?_ | refine gk_ft ?_ | refine gk_u ?_ | refine gk_u' ?_); first | (intro _ e; (first | rw [qqY] at e | rw [qqZ] at e); subst e) | (intro _ _ e e'; (first | rw [qqY] at e | rw [qqZ] at e); subst e; subst e'))))
          exact retM_m rfl
        | true =>
          cases h2 : (id' == id) with
          | false =>
            clear hrec
            rw [mch_no qs (.mk k' id' ts) As Bs hpar fun c => absurd c.2.1 (show ¬ ((id' == id) = true) by rw [h2]; simp)]
            (repeat' (first | ((first | (with_reducible refine qqV fun C hC => ?_) | (with_reducible refine qqW fun C hC => ?_) | ((with_reducible intro C hC); (with_reducible refine qqX ?_))); (first | (simp only [go_sem, cells_enc, Ty.tc, Ty.kd, Ty.id, Ty.args, encL_len, hk, hge, bne, h1, h2]; (first | ((with_reducible apply ACall.pure0 [] (hc)); (focus (exact vwA)))))); (simp only [go_sem, cells_enc, Ty.tc, Ty.kd, Ty.id, Ty.args, encL_len, hk, hge, bne, h1, h2]); ((with_reducible first | refine finA hC ?_ | refine finD hC ?_); clear hC C)) | ((with_reducible first | refine qqT fun C hC => ?_ | refine qqU fun C hC => ?_ | intro C hC); simp only [go_sem, cells_enc, Ty.tc, Ty.kd, Ty.id, Ty.args, encL_len, hk, hge, bne, h1, h2]; ((with_reducible first | refine finA hC ?_ | refine finD hC ?_); clear hC C)) | (with_reducible first | refine qqA fun K hK => ?_ | refine qqB fun K hK => ?_ | refine qqC fun K hK => ?_ | (refine qqD ?_; refine hK _ _ ?_; try clear hK K) | (refine qqE ?_; refine hK _ _ _ ?_ ?_; (focus kernel_rfl); try clear hK K) | (refine qqF ?_; refine hK _ _ ?_; try clear hK K) | refine qqG ?_ | refine qqH ?_ | refine qqI ?_ | refine qqJ ?_ | refine qqK ?_ | (refine qqL ?_; try clear hK K) | (refine qqM ?_; try clear hK K) | refine qqN ?_ | refine qqO ?_ | (refine qqP ?_ ?_; focus decide)) | ((with_reducible first | apply qqQ | apply qqR | apply qqS); focus (simp only [go_sem, cells_enc, Ty.tc, Ty.kd, Ty.id, Ty.args, encL_len, hk, hge, bne, h1, h2]; exact rfl)) | (with_reducible first | refine gk_tt ?_ | refine gk_ff ?_ | refine ck_t ?_ | refine ck_f ?_) | ((with_reducible first | refine gk_tf ?_ | refine gk_ft ?_ | refine gk_u ?_ | refine gk_u' ?_); first | (intro _ e; (first | rw [qqY] at e | rw [qqZ] at e); subst e) | (intro _ _ e e'; (first | rw [qqY] at e | rw [qqZ] at e); subst e; subst e'))))
            exact retM_m rfl
          | true =>
            cases h3 : ((ts.length : Int) == qs.length) with
            | false =>
              clear hrec
              rw [mch_no qs (.mk k' id' ts) As Bs hpar fun c => absurd c.2.2 (show ¬ (((ts.length : Int) == qs.length) = true) by rw [h3]; simp)]
              (repeat' (first | ((first | (with_reducible refine qqV fun C hC => ?_) | (with_reducible refine qqW fun C hC => ?_) | ((with_reducible intro C hC); (with_reducible refine qqX ?_))); (first | (simp only [go_sem, cells_enc, Ty.tc, Ty.kd, Ty.id, Ty.args, encL_len, hk, hge, bne, h1, h2, h3]; (first | ((with_reducible apply ACall.pure0 [] (hc)); (focus (exact vwA)))))); (simp only [go_sem, cells_enc, Ty.tc, Ty.kd, Ty.id, Ty.args, encL_len, hk, hge, bne, h1, h2, h3]); ((with_reducible first | refine finA hC ?_ | refine finD hC ?_); clear hC C)) | ((with_reducible first | refine qqT fun C hC => ?_ | refine qqU fun C hC => ?_ | intro C hC); simp only [go_sem, cells_enc, Ty.tc, Ty.kd, Ty.id, Ty.args, encL_len, hk, hge, bne, h1, h2, h3]; ((with_reducible first | refine finA hC ?_ | refine finD hC ?_); clear hC C)) | (with_reducible first | refine qqA fun K hK => ?_ | refine qqB fun K hK => ?_ | refine qqC fun K hK => ?_ | (refine qqD ?_; refine hK _ _ ?_; try clear hK K) | (refine qqE ?_; refine hK _ _ _ ?_ ?_; (focus kernel_rfl); try clear hK K) | (refine qqF ?_; refine hK _ _ ?_; try clear hK K) | refine qqG ?_ | refine qqH ?_ | refine qqI ?_ | refine qqJ ?_ | refine qqK ?_ | (refine qqL ?_; try clear hK K) | (refine qqM ?_; try clear hK K) | refine qqN ?_ | refine qqO ?_ | (refine qqP ?_ ?_; focus decide)) | ((with_reducible first | apply qqQ | apply qqR | apply qqS); focus (simp only [go_sem, cells_enc, Ty.tc, Ty.kd, Ty.id, Ty.args, encL_len, hk, hge, bne, h1, h2, h3]; exact rfl)) | (with_reducible first | refine gk_tt ?_ | refine gk_ff ?_ | refine ck_t ?_ | refine ck_f ?_) | ((with_reducible first | refine gk_tf ?_ | refine gk_ft ?_ | refine gk_u ?_ | refine gk_u' ?_); first | (intro _ e; (first | rw [qqY] at e | rw [qqZ] at e); subst e) | (intro _ _ e e'; (first | rw [qqY] at e | rw [qqZ] at e); subst e; subst e'))))
              exact retM_m rfl
            | true =>
              have hlen : ts.length = qs.length := by
                have : (ts.length : Int) = qs.length := by simpa using h3
                omega
              rw [mch_yes qs (.mk k' id' ts) As Bs hpar ⟨h1, h2, h3⟩]
              simp only [Ty.args]
              (repeat' (first | ((first | (with_reducible refine qqV fun C hC => ?_) | (with_reducible refine qqW fun C hC => ?_) | ((with_reducible intro C hC); (with_reducible refine qqX ?_))); (first | (simp only [go_sem, cells_enc, Ty.tc, Ty.kd, Ty.id, Ty.args, encL_len, hk, hge, bne, h1, h2, h3]; (first | ((with_reducible apply ACall.pure0 [] (hc)); (focus (exact vwA)))))); (simp only [go_sem, cells_enc, Ty.tc, Ty.kd, Ty.id, Ty.args, encL_len, hk, hge, bne, h1, h2, h3]); ((with_reducible first | refine finA hC ?_ | refine finD hC ?_); clear hC C)) | ((with_reducible first | refine qqT fun C hC => ?_ | refine qqU fun C hC => ?_ | intro C hC); simp only [go_sem, cells_enc, Ty.tc, Ty.kd, Ty.id, Ty.args, encL_len, hk, hge, bne, h1, h2, h3]; ((with_reducible first | refine finA hC ?_ | refine finD hC ?_); clear hC C)) | (with_reducible first | refine qqA fun K hK => ?_ | refine qqB fun K hK => ?_ | refine qqC fun K hK => ?_ | (refine qqD ?_; refine hK _ _ ?_; try clear hK K) | (refine qqE ?_; refine hK _ _ _ ?_ ?_; (focus kernel_rfl); try clear hK K) | (refine qqF ?_; refine hK _ _ ?_; try clear hK K) | refine qqG ?_ | refine qqH ?_ | refine qqI ?_ | refine qqJ ?_ | refine qqK ?_ | (refine qqL ?_; try clear hK K) | (refine qqM ?_; try clear hK K) | refine qqN ?_ | refine qqO ?_ | (refine qqP ?_ ?_; focus decide)) | ((with_reducible first | apply qqQ | apply qqR | apply qqS); focus (simp only [go_sem, cells_enc, Ty.tc, Ty.kd, Ty.id, Ty.args, encL_len, hk, hge, bne, h1, h2, h3]; exact rfl)) | (with_reducible first | refine gk_tt ?_ | refine gk_ff ?_ | refine ck_t ?_ | refine ck_f ?_) | ((with_reducible first | refine gk_tf ?_ | refine gk_ft ?_ | refine gk_u ?_ | refine gk_u' ?_); first | (intro _ e; (first | rw [qqY] at e | rw [qqZ] at e); subst e) | (intro _ _ e e'; (first | rw [qqY] at e | rw [qqZ] at e); subst e; subst e'))))
              have rows : ∀ (rest rest' pre pre' As' : List Ty) (Bs' : List Bool), pre ++ rest = ts → pre' ++ rest' = qs → pre.length = pre'.length → As'.length = ps.length → Bs'.length = ps.length → mchL ps qs ts As Bs = mchL ps rest' rest As' Bs' →
                  loopN (awp Try.prog ac205_l0) (catch_ 0 (thn K (retM [RV.tmp 6] (.pv (bb (mchL ps qs ts As Bs).1)) 3 (mH ps (mchL ps qs ts As Bs).2.1 (mchL ps qs ts As Bs).2.2) m))) (rest.length + 1)
                    [(77, .pv (ii pre.length)), (76, .pv (ii ts.length)), (5, .ptr 4 0 0), (4, .ptr 3 0 0), (0, .ptr 0 0 0)]
                    (mT m ps As' Bs' [some ⟨false, 26, 3, [[.pv (ii k'), .pv (ii id'), .pv (.list 3 (encL ts))]], none⟩, some ⟨false, 26, 3, [[.pv (ii k), .pv (ii id), .pv (.list 3 (encL qs))]], none⟩]) := by
                intro rest
                induction rest with
                | nil =>
                  intro rest' pre pre' As' Bs' hpre hpre' hll hA' hB' he
                  have hpre : pre = ts := by simpa using hpre
                  have hr : rest' = [] := by
                    have h1 := congrArg List.length hpre'
                    simp only [List.length_append] at h1
                    subst hpre
                    exact List.eq_nil_of_length_eq_zero (by omega)
                  subst hpre; subst hr
                  simp only [mchL] at he
                  rw [he]
                  refine loopN_k fun K1 hK1 => ?_
                  unfold ac205_l0 mT
                  (repeat' (first | ((with_reducible first | refine qqT fun C hC => ?_ | refine qqU fun C hC => ?_ | intro C hC); simp only [go_sem, lt_end]; ((with_reducible first | refine finA hC ?_ | refine finD hC ?_); clear hC C)) | (with_reducible first | refine qqA fun K hK => ?_ | refine qqB fun K hK => ?_ | refine qqC fun K hK => ?_ | (refine qqD ?_; refine hK _ _ ?_; try clear hK K) | (refine qqE ?_; refine hK _ _ _ ?_ ?_; (focus kernel_rfl); try clear hK K) | (refine qqF ?_; refine hK _ _ ?_; try clear hK K) | refine qqG ?_ | refine qqH ?_ | refine qqI ?_ | refine qqJ ?_ | refine qqK ?_ | (refine qqL ?_; try clear hK K) | (refine qqM ?_; try clear hK K) | refine qqN ?_ | refine qqO ?_ | (refine qqP ?_ ?_; focus decide)) | ((with_reducible first | apply qqQ | apply qqR | apply qqS); focus (simp only [go_sem, lt_end]; exact rfl)) | (with_reducible first | refine gk_tt ?_ | refine gk_ff ?_ | refine ck_t ?_ | refine ck_f ?_) | ((with_reducible first | refine gk_tf ?_ | refine gk_ft ?_ | refine gk_u ?_ | refine gk_u' ?_); first | (intro _ e; (first | rw [qqY] at e | rw [qqZ] at e); subst e) | (intro _ _ e e'; (first | rw [qqY] at e | rw [qqZ] at e); subst e; subst e'))))
                  rw [he]
                  exact retM_m rfl
                | cons t rest ih =>
                  intro rest' pre pre' As' Bs' hpre hpre' hll hA' hB' he
                  cases rest' with
                  | nil =>
                    have h1 := congrArg List.length hpre
                    have h2 := congrArg List.length hpre'
                    simp at h1 h2; omega
                  | cons q rest' =>
                  have hlt : decide ((pre.length : Int) < (ts.length : Int)) = true := by subst hpre; exact lt_app _ _ _
                  have hat : (encL ts)[pre.length]? = some t.enc := by subst hpre; exact encL_at _ _ _
                  have hat' : (encL qs)[pre.length]? = some q.enc := by rw [hll]; subst hpre'; exact encL_at _ _ _
                  have hb : pre.length + 1 ≤ big := by have := congrArg List.length hpre; simp at this; unfold big; omega
                  have hw := wrapS (n := pre.length) (by unfold big at hb; omega)
                  have hr := hrec q (by subst hpre'; simp) t As' Bs' hA' hB' (ok_mem hok (by subst hpre; simp))
                  have hl2 := mch_len ps q t As' Bs'
                  refine loopN_k fun K1 hK1 => ?_
                  unfold ac205_l0 mT
                  (repeat' (first | ((with_reducible first | refine qqT fun C hC => ?_ | refine qqU fun C hC => ?_ | intro C hC); simp only [go_sem, hlt, hat, hat', cells_enc, pcells_enc, Ty.tc]; ((with_reducible first | refine finA hC ?_ | refine finD hC ?_); clear hC C)) | (with_reducible first | refine qqA fun K hK => ?_ | refine qqB fun K hK => ?_ | refine qqC fun K hK => ?_ | (refine qqD ?_; refine hK _ _ ?_; try clear hK K) | (refine qqE ?_; refine hK _ _ _ ?_ ?_; (focus kernel_rfl); try clear hK K) | (refine qqF ?_; refine hK _ _ ?_; try clear hK K) | refine qqG ?_ | refine qqH ?_ | refine qqI ?_ | refine qqJ ?_ | refine qqK ?_ | (refine qqL ?_; try clear hK K) | (refine qqM ?_; try clear hK K) | refine qqN ?_ | refine qqO ?_ | (refine qqP ?_ ?_; focus decide)) | ((with_reducible first | apply qqQ | apply qqR | apply qqS); focus (simp only [go_sem, hlt, hat, hat', cells_enc, pcells_enc, Ty.tc]; exact rfl)) | (with_reducible first | refine gk_tt ?_ | refine gk_ff ?_ | refine ck_t ?_ | refine ck_f ?_) | ((with_reducible first | refine gk_tf ?_ | refine gk_ft ?_ | refine gk_u ?_ | refine gk_u' ?_); first | (intro _ e; (first | rw [qqY] at e | rw [qqZ] at e); subst e) | (intro _ _ e e'; (first | rw [qqY] at e | rw [qqZ] at e); subst e; subst e'))))
                  refine qqW fun C hC => ?_
                  simp only [go_sem]
                  refine ACall.heap [0, 1, 2] hr rfl (by decide) (by decide) (VM.eq (.ptr 0 0 0) _ _ (.pv _ _ _ _ (by exact vwA) (.pv _ _ _ _ (by exact vwA) .nil))) (mH_hh rfl rfl rfl (WkX.refl _)) ?_
                  simp only [V.ren, mH_out, go_sem]
                  (with_reducible refine finD hC ?_); clear hC C
                  cases hr1 : (mch ps q t As' Bs').1 with
                  | false =>
                    (repeat' (first | ((with_reducible first | refine qqT fun C hC => ?_ | refine qqU fun C hC => ?_ | intro C hC); simp only [go_sem]; ((with_reducible first | refine finA hC ?_ | refine finD hC ?_); clear hC C)) | (with_reducible first | refine qqA fun K hK => ?_ | refine qqB fun K hK => ?_ | refine qqC fun K hK => ?_ | (refine qqD ?_; refine hK _ _ ?_; try clear hK K) | (refine qqE ?_; refine hK _ _ _ ?_ ?_; (focus kernel_rfl); try clear hK K) | (refine qqF ?_; refine hK _ _ ?_; try clear hK K) | refine qqG ?_ | refine qqH ?_ | refine qqI ?_ | refine qqJ ?_ | refine qqK ?_ | (refine qqL ?_; try clear hK K) | (refine qqM ?_; try clear hK K) | refine qqN ?_ | refine qqO ?_ | (refine qqP ?_ ?_; focus decide)) | ((with_reducible first | apply qqQ | apply qqR | apply qqS); focus (simp only [go_sem]; exact rfl)) | (with_reducible first | refine gk_tt ?_ | refine gk_ff ?_ | refine ck_t ?_ | refine ck_f ?_) | ((with_reducible first | refine gk_tf ?_ | refine gk_ft ?_ | refine gk_u ?_ | refine gk_u' ?_); first | (intro _ e; (first | rw [qqY] at e | rw [qqZ] at e); subst e) | (intro _ _ e e'; (first | rw [qqY] at e | rw [qqZ] at e); subst e; subst e'))))
                    have hv : mchL ps qs ts As Bs = (false, (mch ps q t As' Bs').2) := by rw [he]; simp only [mchL, hr1, Bool.false_eq_true, if_false]
                    rw [hv]
                    exact retM_m rfl
                  | true =>
                    (repeat' (first | ((with_reducible first | refine qqT fun C hC => ?_ | refine qqU fun C hC => ?_ | intro C hC); simp only [go_sem]; ((with_reducible first | refine finA hC ?_ | refine finD hC ?_); clear hC C)) | (with_reducible first | refine qqA fun K hK => ?_ | refine qqB fun K hK => ?_ | refine qqC fun K hK => ?_ | (refine qqD ?_; refine hK _ _ ?_; try clear hK K) | (refine qqE ?_; refine hK _ _ _ ?_ ?_; (focus kernel_rfl); try clear hK K) | (refine qqF ?_; refine hK _ _ ?_; try clear hK K) | refine qqG ?_ | refine qqH ?_ | refine qqI ?_ | refine qqJ ?_ | refine qqK ?_ | (refine qqL ?_; try clear hK K) | (refine qqM ?_; try clear hK K) | refine qqN ?_ | refine qqO ?_ | (refine qqP ?_ ?_; focus decide)) | ((with_reducible first | apply qqQ | apply qqR | apply qqS); focus (simp only [go_sem]; exact rfl)) | (with_reducible first | refine gk_tt ?_ | refine gk_ff ?_ | refine ck_t ?_ | refine ck_f ?_) | ((with_reducible first | refine gk_tf ?_ | refine gk_ft ?_ | refine gk_u ?_ | refine gk_u' ?_); first | (intro _ e; (first | rw [qqY] at e | rw [qqZ] at e); subst e) | (intro _ _ e e'; (first | rw [qqY] at e | rw [qqZ] at e); subst e; subst e'))))
                    have ih' := ih rest' (pre ++ [t]) (pre' ++ [q]) (mch ps q t As' Bs').2.1 (mch ps q t As' Bs').2.2 (by simp [hpre]) (by simp [hpre']) (by simp [hll]) (hl2.1.trans hA') (hl2.2.trans hB') (by rw [he]; simp only [mchL, hr1, if_true])
                    unfold mT at ih'
                    refine qqF ?_
                    refine hK1 _ _ _ _ _ (LeB [0, 1, 2, 3, 4] (by refine ⟨?_, ?_, ?_⟩ <;> simp only [leFr, leFb, leHp, V.ren, V.renL, V.bd, V.bdL, allL, lt, Go.Ab.get, hget, List.map_cons, List.map_nil, List.length_cons, List.length_nil, List.length_append, List.getElem?_cons_zero, List.getElem?_cons_succ, List.getElem?_nil, Option.join_some, Option.join_none, List.getD_cons_zero, List.getD_cons_succ, List.getD_nil, Nat.reduceAdd, Nat.reduceLT, Nat.reduceEqDiff, Nat.zero_add, reduceIte, if_true, if_false, and_true, true_and, renL_vcells, allL_vcells, renL_pv, leBlk_some, eq_self, true_or, or_true, reduceCtorEq, false_or, hw, List.length_append, renL_tc, allL_tc, renL_cB, allL_cB])) ih'
              have first := rows ts qs [] [] As Bs rfl rfl rfl hA hB rfl
              unfold mT at first
              refine awp_loop_k _ (LeB [0, 1, 2, 3, 4] (by refine ⟨?_, ?_, ?_⟩ <;> simp only [leFr, leFb, leHp, V.ren, V.renL, V.bd, V.bdL, allL, lt, Go.Ab.get, hget, List.map_cons, List.map_nil, List.length_cons, List.length_nil, List.length_append, List.getElem?_cons_zero, List.getElem?_cons_succ, List.getElem?_nil, Option.join_some, Option.join_none, List.getD_cons_zero, List.getD_cons_succ, List.getD_nil, Nat.reduceAdd, Nat.reduceLT, Nat.reduceEqDiff, Nat.zero_add, reduceIte, if_true, if_false, and_true, true_and, renL_vcells, allL_vcells, renL_pv, leBlk_some, eq_self, true_or, or_true, reduceCtorEq, false_or, c0, renL_tc, allL_tc, renL_cB, allL_cB])) first
termination_by p => SizeOf.sizeOf p
decreasing_by
  have := List.sizeOf_lt_of_mem hq
  simp only [Ty.mk.sizeOf_spec]; omega
end Go.Proofs.Ytbdoblgofddhdaa
/- scheme.Match. -/
set_option maxRecDepth 10000
set_option linter.unusedSimpArgs false
set_option linter.unusedVariables false
namespace Go.Proofs.Ytbdoblgofddhdaa
open Go Go.Ab
def matchR (ps : List Int) (t p : Ty) : Bool × List Ty :=
  ((mch ps p t (List.replicate ps.length zT) (List.replicate ps.length false)).1, if (mch ps p t (List.replicate ps.length zT) (List.replicate ps.length false)).1 then (mch ps p t (List.replicate ps.length zT) (List.replicate ps.length false)).2.1 else [])
theorem wk_zero (n : Nat) : WkX (List.replicate n [.pv (ii 0), .pv (ii 0), .pv (.lit (.slice none 0 0))]) ((List.replicate n zT).map Ty.tc) := by
  refine ⟨by simp, fun i cs ds h1 h2 => ?_⟩
  rw [List.getElem?_replicate] at h1
  rw [List.getElem?_map, List.getElem?_replicate] at h2
  split at h1
  · rename_i hi
    simp only [Option.some.injEq] at h1
    rw [if_pos hi] at h2
    simp only [Option.map_some, Option.some.injEq] at h2
    subst h1; subst h2
    refine ⟨rfl, fun j c d h3 h4 => ?_⟩
    match j, h3, h4 with
    | 0, h3, h4 => simp at h3; subst h3; have h4 : V.pv (ii 0) = d := by simpa [Ty.tc, zT, Ty.kd] using h4
                   subst h4; exact fun _ _ h => h
    | 1, h3, h4 => simp at h3; subst h3; have h4 : V.pv (ii 0) = d := by simpa [Ty.tc, zT, Ty.id] using h4
                   subst h4; exact fun _ _ h => h
    | 2, h3, h4 => simp at h3; subst h3; have h4 : V.pv (.list 3 []) = d := by simpa [Ty.tc, zT, Ty.args, encL] using h4
                   subst h4; intro G u h; simp only [R] at h ⊢; exact RP_nil h
    | j + 3, h3, h4 => simp at h3
  · cases h1
theorem rep_cB (n : Nat) : List.replicate n [V.pv (bb false)] = (List.replicate n false).map cB := by rw [List.map_replicate]; rfl
theorem row_tc {h : HF} {B : List Nat} {b : Nat} {fl ro : Bool} {ty : Nat} {xs : List Ty} {tg : Option (Nat × Nat × Nat)} {n : Nat} (hb : b ∈ B) (hk : h b = some ⟨ro, ty, 3, xs.map Ty.tc, tg⟩) (hn : n = xs.length) : Vw h B (.row b n fl) (.list 3 (encL xs)) :=
  row_view hb hk (by simp [hn]) (VwE_tc xs)
set_option maxHeartbeats 4000000 in
theorem Match_ok (t p : Ty) (ps : List Int) : PCall Try.prog 181 [t.enc, p.enc, .list 1 (encI ps)] (.tup [.list 3 (encL (matchR ps t p).2), bb (matchR ps t p).1]) := by
  refine PCall.intro' (ps := [.list 3 (encL (matchR ps t p).2), bb (matchR ps t p).1]) fn181 (by simp) fun hok => ?_
  have hlen : ps.length ≤ big := by
    simp only [PV.okL, PV.ok, encI_len] at hok; exact hok.2.2.1.1
  have hm := match_ok ps p t (List.replicate ps.length zT) (List.replicate ps.length false) (by simp) (by simp) hok.1
  have hl := mch_len ps p t (List.replicate ps.length zT) (List.replicate ps.length false)
  clear hok
  unfold ac181
  simp only [argFr, Nat.zero_add, Nat.reduceAdd]
  (repeat' (first | ((with_reducible first | refine qqT fun C hC => ?_ | refine qqU fun C hC => ?_ | intro C hC); simp only [go_sem, cells_enc, Ty.tc, encI_len, hlen, beq_self_eq_true, List.map_cons]; ((with_reducible first | refine finA hC ?_ | refine finD hC ?_); clear hC C)) | (with_reducible first | refine qqA fun K hK => ?_ | refine qqB fun K hK => ?_ | refine qqC fun K hK => ?_ | (refine qqD ?_; refine hK _ _ ?_; try clear hK K) | (refine qqE ?_; refine hK _ _ _ ?_ ?_; (focus kernel_rfl); try clear hK K) | (refine qqF ?_; refine hK _ _ ?_; try clear hK K) | refine qqG ?_ | refine qqH ?_ | refine qqI ?_ | refine qqJ ?_ | refine qqK ?_ | (refine qqL ?_; try clear hK K) | (refine qqM ?_; try clear hK K) | refine qqN ?_ | refine qqO ?_ | (refine qqP ?_ ?_; focus decide)) | ((with_reducible first | apply qqQ | apply qqR | apply qqS); focus (simp only [go_sem, cells_enc, Ty.tc, encI_len, hlen, beq_self_eq_true, List.map_cons]; exact rfl)) | (with_reducible first | refine gk_tt ?_ | refine gk_ff ?_ | refine ck_t ?_ | refine ck_f ?_) | ((with_reducible first | refine gk_tf ?_ | refine gk_ft ?_ | refine gk_u ?_ | refine gk_u' ?_); first | (intro _ e; (first | rw [qqY] at e | rw [qqZ] at e); subst e) | (intro _ _ e e'; (first | rw [qqY] at e | rw [qqZ] at e); subst e; subst e'))))
  rw [show List.replicate ps.length [V.pv (PV.lit (Value.bool false))] = (List.replicate ps.length false).map cB from rep_cB _]
  refine qqV fun C hC => ?_
  simp only [go_sem]
  refine ACall.heap [10, 5, 8] hm rfl (by decide) (by decide) (VM.eq (.ptr 0 0 0) _ _ (.pv _ _ _ _ (by exact vwA) (.pv _ _ _ _ (by exact vwA) .nil))) (mH_hh rfl rfl rfl (wk_zero _)) ?_
  simp only [V.ren, mH_out, go_sem]
  (with_reducible refine finA hC ?_); clear hC C
  unfold matchR at *
  generalize mch ps p t (List.replicate ps.length zT) (List.replicate ps.length false) = M at *
  obtain ⟨r, As', Bs'⟩ := M
  simp only [List.length_replicate] at hl
  cases r with
  | false =>
    (repeat' (first | ((with_reducible first | refine qqT fun C hC => ?_ | refine qqU fun C hC => ?_ | intro C hC); simp only [go_sem]; ((with_reducible first | refine finA hC ?_ | refine finD hC ?_); clear hC C)) | (with_reducible first | refine qqA fun K hK => ?_ | refine qqB fun K hK => ?_ | refine qqC fun K hK => ?_ | (refine qqD ?_; refine hK _ _ ?_; try clear hK K) | (refine qqE ?_; refine hK _ _ _ ?_ ?_; (focus kernel_rfl); try clear hK K) | (refine qqF ?_; refine hK _ _ ?_; try clear hK K) | refine qqG ?_ | refine qqH ?_ | refine qqI ?_ | refine qqJ ?_ | refine qqK ?_ | (refine qqL ?_; try clear hK K) | (refine qqM ?_; try clear hK K) | refine qqN ?_ | refine qqO ?_ | (refine qqP ?_ ?_; focus decide)) | ((with_reducible first | apply qqQ | apply qqR | apply qqS); focus (simp only [go_sem]; exact rfl)) | (with_reducible first | refine gk_tt ?_ | refine gk_ff ?_ | refine ck_t ?_ | refine ck_f ?_) | ((with_reducible first | refine gk_tf ?_ | refine gk_ft ?_ | refine gk_u ?_ | refine gk_u' ?_); first | (intro _ e; (first | rw [qqY] at e | rw [qqZ] at e); subst e) | (intro _ _ e e'; (first | rw [qqY] at e | rw [qqZ] at e); subst e; subst e'))))
    (refine retP_ret (List.range 40) rfl ?_; (try simp only [encL, if_true, if_false, Bool.false_eq_true, Bool.not_true, Bool.not_false]); exact vwA)
  | true =>
    (repeat' (first | ((with_reducible first | refine qqT fun C hC => ?_ | refine qqU fun C hC => ?_ | intro C hC); simp only [go_sem]; ((with_reducible first | refine finA hC ?_ | refine finD hC ?_); clear hC C)) | (with_reducible first | refine qqA fun K hK => ?_ | refine qqB fun K hK => ?_ | refine qqC fun K hK => ?_ | (refine qqD ?_; refine hK _ _ ?_; try clear hK K) | (refine qqE ?_; refine hK _ _ _ ?_ ?_; (focus kernel_rfl); try clear hK K) | (refine qqF ?_; refine hK _ _ ?_; try clear hK K) | refine qqG ?_ | refine qqH ?_ | refine qqI ?_ | refine qqJ ?_ | refine qqK ?_ | (refine qqL ?_; try clear hK K) | (refine qqM ?_; try clear hK K) | refine qqN ?_ | refine qqO ?_ | (refine qqP ?_ ?_; focus decide)) | ((with_reducible first | apply qqQ | apply qqR | apply qqS); focus (simp only [go_sem]; exact rfl)) | (with_reducible first | refine gk_tt ?_ | refine gk_ff ?_ | refine ck_t ?_ | refine ck_f ?_) | ((with_reducible first | refine gk_tf ?_ | refine gk_ft ?_ | refine gk_u ?_ | refine gk_u' ?_); first | (intro _ e; (first | rw [qqY] at e | rw [qqZ] at e); subst e) | (intro _ _ e e'; (first | rw [qqY] at e | rw [qqZ] at e); subst e; subst e'))))
    refine retP_ret [5] rfl (.cons _ _ _ _ ?_ (.cons _ _ _ _ (.pv _) .nil))
    exact row_tc (by decide) rfl hl.1.symm
end Go.Proofs.Ytbdoblgofddhdaa
/- scheme.Apply, scheme.Instantiate; does a parameter occur? -/
set_option maxRecDepth 10000
set_option linter.unusedSimpArgs false
set_option linter.unusedVariables false
namespace Go.Proofs.Ytbdoblgofddhdaa
open Go Go.Ab
set_option maxHeartbeats 1000000 in
theorem idxJ_ok (fid : FuncId) (caps : List PV) (p : Int → Bool) (ts : List Int) (hp : ∀ t ∈ ts, PCall Try.prog fid ([ii t] ++ caps) (bb (p t))) : PCall Try.prog 158 [.list 1 (encI ts), .fn fid caps] (ii (idxF p ts 0)) := by
  refine PCall.intro' (ps := [ii (idxF p ts 0)]) fn158 (by simp) fun hok => ?_
  have hss : ts.length ≤ 1099511627776 := by
    simp only [PV.okL, PV.ok, encI_len, big] at hok; exact hok.1.1
  clear hok
  unfold ac158
  simp only [argFr]
  (repeat' (first | ((with_reducible first | refine qqT fun C hC => ?_ | refine qqU fun C hC => ?_ | intro C hC); simp only [go_sem, encI_len]; ((with_reducible first | refine finA hC ?_ | refine finD hC ?_); clear hC C)) | (with_reducible first | refine qqA fun K hK => ?_ | refine qqB fun K hK => ?_ | refine qqC fun K hK => ?_ | (refine qqD ?_; refine hK _ _ ?_; try clear hK K) | (refine qqE ?_; refine hK _ _ _ ?_ ?_; (focus kernel_rfl); try clear hK K) | (refine qqF ?_; refine hK _ _ ?_; try clear hK K) | refine qqG ?_ | refine qqH ?_ | refine qqI ?_ | refine qqJ ?_ | refine qqK ?_ | (refine qqL ?_; try clear hK K) | (refine qqM ?_; try clear hK K) | refine qqN ?_ | refine qqO ?_ | (refine qqP ?_ ?_; focus decide)) | ((with_reducible first | apply qqQ | apply qqR | apply qqS); focus (simp only [go_sem, encI_len]; exact rfl)) | (with_reducible first | refine gk_tt ?_ | refine gk_ff ?_ | refine ck_t ?_ | refine ck_f ?_) | ((with_reducible first | refine gk_tf ?_ | refine gk_ft ?_ | refine gk_u ?_ | refine gk_u' ?_); first | (intro _ e; (first | rw [qqY] at e | rw [qqZ] at e); subst e) | (intro _ _ e e'; (first | rw [qqY] at e | rw [qqZ] at e); subst e; subst e'))))
  have rows : ∀ (rest pre : List Int), pre ++ rest = ts → idxF p ts 0 = idxF p rest pre.length → loopN (awp Try.prog ac158_l0) (catch_ 0 (thn K (retP [RV.tmp 4] [ii (idxF p ts 0)]))) (rest.length + 1)
     [(8, .pv (ii pre.length)), (7, .pv (ii ts.length)), (1, .pv (.fn fid caps)), (0, .pv (.list 1 (encI ts)))] [] := by
    intro rest
    induction rest with
    | nil =>
      intro pre hpre hi
      have hpre : pre = ts := by simpa using hpre
      subst hpre
      refine loopN_k fun K1 hK1 => ?_
      unfold ac158_l0
      (repeat' (first | ((with_reducible first | refine qqT fun C hC => ?_ | refine qqU fun C hC => ?_ | intro C hC); simp only [go_sem, lt_end]; ((with_reducible first | refine finA hC ?_ | refine finD hC ?_); clear hC C)) | (with_reducible first | refine qqA fun K hK => ?_ | refine qqB fun K hK => ?_ | refine qqC fun K hK => ?_ | (refine qqD ?_; refine hK _ _ ?_; try clear hK K) | (refine qqE ?_; refine hK _ _ _ ?_ ?_; (focus kernel_rfl); try clear hK K) | (refine qqF ?_; refine hK _ _ ?_; try clear hK K) | refine qqG ?_ | refine qqH ?_ | refine qqI ?_ | refine qqJ ?_ | refine qqK ?_ | (refine qqL ?_; try clear hK K) | (refine qqM ?_; try clear hK K) | refine qqN ?_ | refine qqO ?_ | (refine qqP ?_ ?_; focus decide)) | ((with_reducible first | apply qqQ | apply qqR | apply qqS); focus (simp only [go_sem, lt_end]; exact rfl)) | (with_reducible first | refine gk_tt ?_ | refine gk_ff ?_ | refine ck_t ?_ | refine ck_f ?_) | ((with_reducible first | refine gk_tf ?_ | refine gk_ft ?_ | refine gk_u ?_ | refine gk_u' ?_); first | (intro _ e; (first | rw [qqY] at e | rw [qqZ] at e); subst e) | (intro _ _ e e'; (first | rw [qqY] at e | rw [qqZ] at e); subst e; subst e'))))
      rw [hi]
      (refine retP_ret (List.range 40) rfl ?_; (try simp only [idxF, if_true, if_false, Bool.false_eq_true, Bool.not_true, Bool.not_false]); exact vwA)
    | cons t rest ih =>
      intro pre hpre hi
      have hlt : decide ((pre.length : Int) < (ts.length : Int)) = true := by subst hpre; exact lt_app _ _ _
      have hat : (encI ts)[pre.length]? = some (ii t) := by subst hpre; exact encI_at _ _ _
      have hb : pre.length + 1 ≤ big := by have := congrArg List.length hpre; simp at this; unfold big; omega
      have hc := hp t (by subst hpre; simp)
      refine loopN_k fun K1 hK1 => ?_
      unfold ac158_l0
      cases hpt : p t with
      | true =>
        rw [hpt] at hc
        (repeat' (first | ((first | (with_reducible refine qqV fun C hC => ?_) | (with_reducible refine qqW fun C hC => ?_) | ((with_reducible intro C hC); (with_reducible refine qqX ?_))); (first | (simp only [go_sem, hlt, hat]; (first | ((with_reducible refine ACall.pure [] (.pv _) ?_ (hc) ?_); (focus (exact vwA)))))); (simp only [go_sem, hlt, hat]); ((with_reducible first | refine finA hC ?_ | refine finD hC ?_); clear hC C)) | ((with_reducible first | refine qqT fun C hC => ?_ | refine qqU fun C hC => ?_ | intro C hC); simp only [go_sem, hlt, hat]; ((with_reducible first | refine finA hC ?_ | refine finD hC ?_); clear hC C)) | (with_reducible first | refine qqA fun K hK => ?_ | refine qqB fun K hK => ?_ | refine qqC fun K hK => ?_ | (refine qqD ?_; refine hK _ _ ?_; try clear hK K) | (refine qqE ?_; refine hK _ _ _ ?_ ?_; (focus kernel_rfl); try clear hK K) | (refine qqF ?_; refine hK _ _ ?_; try clear hK K) | refine qqG ?_ | refine qqH ?_ | refine qqI ?_ | refine qqJ ?_ | refine qqK ?_ | (refine qqL ?_; try clear hK K) | (refine qqM ?_; try clear hK K) | refine qqN ?_ | refine qqO ?_ | (refine qqP ?_ ?_; focus decide)) | ((with_reducible first | apply qqQ | apply qqR | apply qqS); focus (simp only [go_sem, hlt, hat]; exact rfl)) | (with_reducible first | refine gk_tt ?_ | refine gk_ff ?_ | refine ck_t ?_ | refine ck_f ?_) | ((with_reducible first | refine gk_tf ?_ | refine gk_ft ?_ | refine gk_u ?_ | refine gk_u' ?_); first | (intro _ e; (first | rw [qqY] at e | rw [qqZ] at e); subst e) | (intro _ _ e e'; (first | rw [qqY] at e | rw [qqZ] at e); subst e; subst e'))))
        simp only [idxF, hpt, if_true] at hi
        rw [hi]
        (refine retP_ret (List.range 40) rfl ?_; exact vwA)
      | false =>
        rw [hpt] at hc
        (repeat' (first | ((first | (with_reducible refine qqV fun C hC => ?_) | (with_reducible refine qqW fun C hC => ?_) | ((with_reducible intro C hC); (with_reducible refine qqX ?_))); (first | (simp only [go_sem, hlt, hat]; (first | ((with_reducible refine ACall.pure [] (.pv _) ?_ (hc) ?_); (focus (exact vwA)))))); (simp only [go_sem, hlt, hat]); ((with_reducible first | refine finA hC ?_ | refine finD hC ?_); clear hC C)) | ((with_reducible first | refine qqT fun C hC => ?_ | refine qqU fun C hC => ?_ | intro C hC); simp only [go_sem, hlt, hat]; ((with_reducible first | refine finA hC ?_ | refine finD hC ?_); clear hC C)) | (with_reducible first | refine qqA fun K hK => ?_ | refine qqB fun K hK => ?_ | refine qqC fun K hK => ?_ | (refine qqD ?_; refine hK _ _ ?_; try clear hK K) | (refine qqE ?_; refine hK _ _ _ ?_ ?_; (focus kernel_rfl); try clear hK K) | (refine qqF ?_; refine hK _ _ ?_; try clear hK K) | refine qqG ?_ | refine qqH ?_ | refine qqI ?_ | refine qqJ ?_ | refine qqK ?_ | (refine qqL ?_; try clear hK K) | (refine qqM ?_; try clear hK K) | refine qqN ?_ | refine qqO ?_ | (refine qqP ?_ ?_; focus decide)) | ((with_reducible first | apply qqQ | apply qqR | apply qqS); focus (simp only [go_sem, hlt, hat]; exact rfl)) | (with_reducible first | refine gk_tt ?_ | refine gk_ff ?_ | refine ck_t ?_ | refine ck_f ?_) | ((with_reducible first | refine gk_tf ?_ | refine gk_ft ?_ | refine gk_u ?_ | refine gk_u' ?_); first | (intro _ e; (first | rw [qqY] at e | rw [qqZ] at e); subst e) | (intro _ _ e e'; (first | rw [qqY] at e | rw [qqZ] at e); subst e; subst e'))))
        have hw := wrapS (n := pre.length) (by unfold big at hb; omega)
        refine qqF ?_
        refine hK1 _ _ _ _ _ (LeB [] (by refine ⟨?_, ?_, ?_⟩ <;> simp only [leFr, leFb, leHp, V.ren, V.renL, V.bd, V.bdL, allL, lt, Go.Ab.get, hget, List.map_cons, List.map_nil, List.length_cons, List.length_nil, List.length_append, List.getElem?_cons_zero, List.getElem?_cons_succ, List.getElem?_nil, Option.join_some, Option.join_none, List.getD_cons_zero, List.getD_cons_succ, List.getD_nil, Nat.reduceAdd, Nat.reduceLT, Nat.reduceEqDiff, Nat.zero_add, reduceIte, if_true, if_false, and_true, true_and, renL_vcells, allL_vcells, renL_pv, leBlk_some, eq_self, true_or, or_true, reduceCtorEq, false_or, hw, List.length_append])) (ih (pre ++ [t]) (by simp [hpre]) (by simpa [idxF, hpt] using hi))
  refine awp_loop_k _ (LeB [] (by refine ⟨?_, ?_, ?_⟩ <;> simp only [leFr, leFb, leHp, V.ren, V.renL, V.bd, V.bdL, allL, lt, Go.Ab.get, hget, List.map_cons, List.map_nil, List.length_cons, List.length_nil, List.length_append, List.getElem?_cons_zero, List.getElem?_cons_succ, List.getElem?_nil, Option.join_some, Option.join_none, List.getD_cons_zero, List.getD_cons_succ, List.getD_nil, Nat.reduceAdd, Nat.reduceLT, Nat.reduceEqDiff, Nat.zero_add, reduceIte, if_true, if_false, and_true, true_and, renL_vcells, allL_vcells, renL_pv, leBlk_some, eq_self, true_or, or_true, reduceCtorEq, false_or, c0])) (rows ts [] rfl rfl)
theorem hasJ_ok (fid : FuncId) (caps : List PV) (p : Int → Bool) (ts : List Int) (hp : ∀ t ∈ ts, PCall Try.prog fid ([ii t] ++ caps) (bb (p t))) : PCall Try.prog 104 [.list 1 (encI ts), .fn fid caps] (bb (ts.any p)) := by
  have h := idxJ_ok fid caps p ts hp
  refine PCall.intro (ps := [bb (ts.any p)]) fn104 (by simp) ?_
  unfold ac104
  simp only [argFr]
  (repeat' (first | ((first | (with_reducible refine qqV fun C hC => ?_) | (with_reducible refine qqW fun C hC => ?_) | ((with_reducible intro C hC); (with_reducible refine qqX ?_))); (first | (simp only [go_sem, idxF_ge]; (first | ((with_reducible apply ACall.pure0 [] (h)); (focus (exact vwA)))))); (simp only [go_sem, idxF_ge]); ((with_reducible first | refine finA hC ?_ | refine finD hC ?_); clear hC C)) | ((with_reducible first | refine qqT fun C hC => ?_ | refine qqU fun C hC => ?_ | intro C hC); simp only [go_sem, idxF_ge]; ((with_reducible first | refine finA hC ?_ | refine finD hC ?_); clear hC C)) | (with_reducible first | refine qqA fun K hK => ?_ | refine qqB fun K hK => ?_ | refine qqC fun K hK => ?_ | (refine qqD ?_; refine hK _ _ ?_; try clear hK K) | (refine qqE ?_; refine hK _ _ _ ?_ ?_; (focus kernel_rfl); try clear hK K) | (refine qqF ?_; refine hK _ _ ?_; try clear hK K) | refine qqG ?_ | refine qqH ?_ | refine qqI ?_ | refine qqJ ?_ | refine qqK ?_ | (refine qqL ?_; try clear hK K) | (refine qqM ?_; try clear hK K) | refine qqN ?_ | refine qqO ?_ | (refine qqP ?_ ?_; focus decide)) | ((with_reducible first | apply qqQ | apply qqR | apply qqS); focus (simp only [go_sem, idxF_ge]; exact rfl)) | (with_reducible first | refine gk_tt ?_ | refine gk_ff ?_ | refine ck_t ?_ | refine ck_f ?_) | ((with_reducible first | refine gk_tf ?_ | refine gk_ft ?_ | refine gk_u ?_ | refine gk_u' ?_); first | (intro _ e; (first | rw [qqY] at e | rw [qqZ] at e); subst e) | (intro _ _ e e'; (first | rw [qqY] at e | rw [qqZ] at e); subst e; subst e'))))
  (refine retP_ret (List.range 40) rfl ?_; exact vwA)
/-- what the test of a parameter comes to -/
theorem par_cases (ps : List Int) (k id : Int) : (isPar ps k id = true ∧ (k == 2) = true ∧ ∃ i, i < ps.length ∧ idxF (fun x => id == x) ps 0 = (i : Int) ∧ parI ps id = i) ∨
    (isPar ps k id = false ∧ ((k == 2) = false ∨ ((k == 2) = true ∧ idxF (fun x => id == x) ps 0 = -1))) := by
  unfold isPar parI
  cases hk : (k == 2) with
  | false => exact .inr ⟨rfl, .inl rfl⟩
  | true =>
    rcases idxF_spec (fun x => id == x) ps 0 with ⟨e, _⟩ | ⟨pre, b, post, hps, _, e, _⟩
    · rw [e]; exact .inr ⟨rfl, .inr ⟨rfl, rfl⟩⟩
    · rw [e]
      refine .inl ⟨by simp, rfl, pre.length, by rw [hps]; simp, by simp, by simp⟩
def appG (ps : List Int) (xs : List Ty) (u : Ty) : Ty × Bool := if isPar ps u.kd u.id then (if decide (parI ps u.id < xs.length) then (xs.getD (parI ps u.id) zT, true) else (u, false)) else (u, false)
def insG (ps : List Int) (fv : Int) (u : Ty) : Ty × Bool := if isPar ps u.kd u.id then (.mk 1 (IntKind.i64.wrap (fv + parI ps u.id)) [], true) else (u, false)
set_option maxHeartbeats 4000000 in
theorem appg_ok (ps : List Int) (xs : List Ty) (u : Ty) : PCall Try.prog 147 ([u.enc] ++ [.rptr [.list 1 (encI ps)], .rptr [.list 3 (encL xs)]]) (.tup [(appG ps xs u).1.enc, bb (appG ps xs u).2]) := by
  refine PCall.intro (ps := [(appG ps xs u).1.enc, bb (appG ps xs u).2]) fn147 (by simp) ?_
  have hc := idxI_ok ps u.id
  unfold ac147
  simp only [argFr, List.cons_append, List.nil_append]
  rcases par_cases ps u.kd u.id with ⟨hp, hk, i, hi, e, hpi⟩ | ⟨hp, hk | ⟨hk, e⟩⟩
  · rw [e] at hc
    have hneg : decide ((i : Int) < 0) = false := by simp
    by_cases hl : i < xs.length
    · have hge : decide ((i : Int) ≥ (xs.length : Int)) = false := by simp; omega
      have hat : (encL xs)[i]? = some (xs.getD i zT).enc := by
        rw [encL_map, List.getElem?_map, List.getElem?_eq_getElem hl, List.getD_eq_getElem?_getD, List.getElem?_eq_getElem hl]; rfl
      have hcl := clone_ok (xs.getD i zT)
      have hlt : decide (i < xs.length) = true := by simp [hl]
      (repeat' (first | ((first | (with_reducible refine qqV fun C hC => ?_) | (with_reducible refine qqW fun C hC => ?_) | ((with_reducible intro C hC); (with_reducible refine qqX ?_))); (first | (simp only [go_sem, cells_enc, Ty.tc, bne, hk, hneg, hge, hat, pcells_enc, encL_len]; (first | ((with_reducible apply ACall.pure0 [] (hc)); (focus (exact vwA))) | ((with_reducible apply ACall.pure0 [] (hcl)); (focus (exact vwA)))))); (simp only [go_sem, cells_enc, Ty.tc, bne, hk, hneg, hge, hat, pcells_enc, encL_len]); ((with_reducible first | refine finA hC ?_ | refine finD hC ?_); clear hC C)) | ((with_reducible first | refine qqT fun C hC => ?_ | refine qqU fun C hC => ?_ | intro C hC); simp only [go_sem, cells_enc, Ty.tc, bne, hk, hneg, hge, hat, pcells_enc, encL_len]; ((with_reducible first | refine finA hC ?_ | refine finD hC ?_); clear hC C)) | (with_reducible first | refine qqA fun K hK => ?_ | refine qqB fun K hK => ?_ | refine qqC fun K hK => ?_ | (refine qqD ?_; refine hK _ _ ?_; try clear hK K) | (refine qqE ?_; refine hK _ _ _ ?_ ?_; (focus kernel_rfl); try clear hK K) | (refine qqF ?_; refine hK _ _ ?_; try clear hK K) | refine qqG ?_ | refine qqH ?_ | refine qqI ?_ | refine qqJ ?_ | refine qqK ?_ | (refine qqL ?_; try clear hK K) | (refine qqM ?_; try clear hK K) | refine qqN ?_ | refine qqO ?_ | (refine qqP ?_ ?_; focus decide)) | ((with_reducible first | apply qqQ | apply qqR | apply qqS); focus (simp only [go_sem, cells_enc, Ty.tc, bne, hk, hneg, hge, hat, pcells_enc, encL_len]; exact rfl)) | (with_reducible first | refine gk_tt ?_ | refine gk_ff ?_ | refine ck_t ?_ | refine ck_f ?_) | ((with_reducible first | refine gk_tf ?_ | refine gk_ft ?_ | refine gk_u ?_ | refine gk_u' ?_); first | (intro _ e; (first | rw [qqY] at e | rw [qqZ] at e); subst e) | (intro _ _ e e'; (first | rw [qqY] at e | rw [qqZ] at e); subst e; subst e'))))
      (refine retP_ret (List.range 40) rfl ?_; (try simp only [appG, hp, hpi, hlt, if_true, if_false, Bool.false_eq_true, Bool.not_true, Bool.not_false]); exact vwA)
    · have hge : decide ((i : Int) ≥ (xs.length : Int)) = true := by simp; omega
      have hlt : decide (i < xs.length) = false := by simp; omega
      (repeat' (first | ((first | (with_reducible refine qqV fun C hC => ?_) | (with_reducible refine qqW fun C hC => ?_) | ((with_reducible intro C hC); (with_reducible refine qqX ?_))); (first | (simp only [go_sem, cells_enc, Ty.tc, bne, hk, hneg, hge, encL_len]; (first | ((with_reducible apply ACall.pure0 [] (hc)); (focus (exact vwA)))))); (simp only [go_sem, cells_enc, Ty.tc, bne, hk, hneg, hge, encL_len]); ((with_reducible first | refine finA hC ?_ | refine finD hC ?_); clear hC C)) | ((with_reducible first | refine qqT fun C hC => ?_ | refine qqU fun C hC => ?_ | intro C hC); simp only [go_sem, cells_enc, Ty.tc, bne, hk, hneg, hge, encL_len]; ((with_reducible first | refine finA hC ?_ | refine finD hC ?_); clear hC C)) | (with_reducible first | refine qqA fun K hK => ?_ | refine qqB fun K hK => ?_ | refine qqC fun K hK => ?_ | (refine qqD ?_; refine hK _ _ ?_; try clear hK K) | (refine qqE ?_; refine hK _ _ _ ?_ ?_; (focus kernel_rfl); try clear hK K) | (refine qqF ?_; refine hK _ _ ?_; try clear hK K) | refine qqG ?_ | refine qqH ?_ | refine qqI ?_ | refine qqJ ?_ | refine qqK ?_ | (refine qqL ?_; try clear hK K) | (refine qqM ?_; try clear hK K) | refine qqN ?_ | refine qqO ?_ | (refine qqP ?_ ?_; focus decide)) | ((with_reducible first | apply qqQ | apply qqR | apply qqS); focus (simp only [go_sem, cells_enc, Ty.tc, bne, hk, hneg, hge, encL_len]; exact rfl)) | (with_reducible first | refine gk_tt ?_ | refine gk_ff ?_ | refine ck_t ?_ | refine ck_f ?_) | ((with_reducible first | refine gk_tf ?_ | refine gk_ft ?_ | refine gk_u ?_ | refine gk_u' ?_); first | (intro _ e; (first | rw [qqY] at e | rw [qqZ] at e); subst e) | (intro _ _ e e'; (first | rw [qqY] at e | rw [qqZ] at e); subst e; subst e'))))
      (refine retP_ret (List.range 40) rfl ?_; (try simp only [appG, hp, hpi, hlt, if_true, if_false, Bool.false_eq_true, Bool.not_true, Bool.not_false]); exact vwA)
  · (repeat' (first | ((first | (with_reducible refine qqV fun C hC => ?_) | (with_reducible refine qqW fun C hC => ?_) | ((with_reducible intro C hC); (with_reducible refine qqX ?_))); (first | (simp only [go_sem, cells_enc, Ty.tc, bne, hk]; (first | ((with_reducible apply ACall.pure0 [] (hc)); (focus (exact vwA)))))); (simp only [go_sem, cells_enc, Ty.tc, bne, hk]); ((with_reducible first | refine finA hC ?_ | refine finD hC ?_); clear hC C)) | ((with_reducible first | refine qqT fun C hC => ?_ | refine qqU fun C hC => ?_ | intro C hC); simp only [go_sem, cells_enc, Ty.tc, bne, hk]; ((with_reducible first | refine finA hC ?_ | refine finD hC ?_); clear hC C)) | (with_reducible first | refine qqA fun K hK => ?_ | refine qqB fun K hK => ?_ | refine qqC fun K hK => ?_ | (refine qqD ?_; refine hK _ _ ?_; try clear hK K) | (refine qqE ?_; refine hK _ _ _ ?_ ?_; (focus kernel_rfl); try clear hK K) | (refine qqF ?_; refine hK _ _ ?_; try clear hK K) | refine qqG ?_ | refine qqH ?_ | refine qqI ?_ | refine qqJ ?_ | refine qqK ?_ | (refine qqL ?_; try clear hK K) | (refine qqM ?_; try clear hK K) | refine qqN ?_ | refine qqO ?_ | (refine qqP ?_ ?_; focus decide)) | ((with_reducible first | apply qqQ | apply qqR | apply qqS); focus (simp only [go_sem, cells_enc, Ty.tc, bne, hk]; exact rfl)) | (with_reducible first | refine gk_tt ?_ | refine gk_ff ?_ | refine ck_t ?_ | refine ck_f ?_) | ((with_reducible first | refine gk_tf ?_ | refine gk_ft ?_ | refine gk_u ?_ | refine gk_u' ?_); first | (intro _ e; (first | rw [qqY] at e | rw [qqZ] at e); subst e) | (intro _ _ e e'; (first | rw [qqY] at e | rw [qqZ] at e); subst e; subst e'))))
    (refine retP_ret (List.range 40) rfl ?_; (try simp only [appG, hp, if_true, if_false, Bool.false_eq_true, Bool.not_true, Bool.not_false]); exact vwA)
  · rw [e] at hc
    (repeat' (first | ((first | (with_reducible refine qqV fun C hC => ?_) | (with_reducible refine qqW fun C hC => ?_) | ((with_reducible intro C hC); (with_reducible refine qqX ?_))); (first | (simp only [go_sem, cells_enc, Ty.tc, bne, hk]; (first | ((with_reducible apply ACall.pure0 [] (hc)); (focus (exact vwA)))))); (simp only [go_sem, cells_enc, Ty.tc, bne, hk]); ((with_reducible first | refine finA hC ?_ | refine finD hC ?_); clear hC C)) | ((with_reducible first | refine qqT fun C hC => ?_ | refine qqU fun C hC => ?_ | intro C hC); simp only [go_sem, cells_enc, Ty.tc, bne, hk]; ((with_reducible first | refine finA hC ?_ | refine finD hC ?_); clear hC C)) | (with_reducible first | refine qqA fun K hK => ?_ | refine qqB fun K hK => ?_ | refine qqC fun K hK => ?_ | (refine qqD ?_; refine hK _ _ ?_; try clear hK K) | (refine qqE ?_; refine hK _ _ _ ?_ ?_; (focus kernel_rfl); try clear hK K) | (refine qqF ?_; refine hK _ _ ?_; try clear hK K) | refine qqG ?_ | refine qqH ?_ | refine qqI ?_ | refine qqJ ?_ | refine qqK ?_ | (refine qqL ?_; try clear hK K) | (refine qqM ?_; try clear hK K) | refine qqN ?_ | refine qqO ?_ | (refine qqP ?_ ?_; focus decide)) | ((with_reducible first | apply qqQ | apply qqR | apply qqS); focus (simp only [go_sem, cells_enc, Ty.tc, bne, hk]; exact rfl)) | (with_reducible first | refine gk_tt ?_ | refine gk_ff ?_ | refine ck_t ?_ | refine ck_f ?_) | ((with_reducible first | refine gk_tf ?_ | refine gk_ft ?_ | refine gk_u ?_ | refine gk_u' ?_); first | (intro _ e; (first | rw [qqY] at e | rw [qqZ] at e); subst e) | (intro _ _ e e'; (first | rw [qqY] at e | rw [qqZ] at e); subst e; subst e'))))
    (refine retP_ret (List.range 40) rfl ?_; (try simp only [appG, hp, if_true, if_false, Bool.false_eq_true, Bool.not_true, Bool.not_false]); exact vwA)
def appT (ps : List Int) (xs : List Ty) (t : Ty) : Ty := mapT (appG ps xs) t
def insT (ps : List Int) (fv : Int) (t : Ty) : Ty := mapT (insG ps fv) t
theorem apply_ok (t : Ty) (ps : List Int) (xs : List Ty) : PCall Try.prog 80 [t.enc, .list 1 (encI ps), .list 3 (encL xs)] (appT ps xs t).enc := by
  have hm := map_ok 147 [.rptr [.list 1 (encI ps)], .rptr [.list 3 (encL xs)]] (appG ps xs) (appg_ok ps xs) t
  refine PCall.intro (ps := [(appT ps xs t).enc]) fn80 (by simp) ?_
  unfold ac80
  simp only [argFr]
  (repeat' (first | ((first | (with_reducible refine qqV fun C hC => ?_) | (with_reducible refine qqW fun C hC => ?_) | ((with_reducible intro C hC); (with_reducible refine qqX ?_))); (first | (simp only [go_sem, cells_enc, Ty.tc, scal_enc]; (first | ((with_reducible apply ACall.pure0 [1, 2] (hm)); (focus (exact vwA)))))); (simp only [go_sem, cells_enc, Ty.tc, scal_enc]); ((with_reducible first | refine finA hC ?_ | refine finD hC ?_); clear hC C)) | ((with_reducible first | refine qqT fun C hC => ?_ | refine qqU fun C hC => ?_ | intro C hC); simp only [go_sem, cells_enc, Ty.tc, scal_enc]; ((with_reducible first | refine finA hC ?_ | refine finD hC ?_); clear hC C)) | (with_reducible first | refine qqA fun K hK => ?_ | refine qqB fun K hK => ?_ | refine qqC fun K hK => ?_ | (refine qqD ?_; refine hK _ _ ?_; try clear hK K) | (refine qqE ?_; refine hK _ _ _ ?_ ?_; (focus kernel_rfl); try clear hK K) | (refine qqF ?_; refine hK _ _ ?_; try clear hK K) | refine qqG ?_ | refine qqH ?_ | refine qqI ?_ | refine qqJ ?_ | refine qqK ?_ | (refine qqL ?_; try clear hK K) | (refine qqM ?_; try clear hK K) | refine qqN ?_ | refine qqO ?_ | (refine qqP ?_ ?_; focus decide)) | ((with_reducible first | apply qqQ | apply qqR | apply qqS); focus (simp only [go_sem, cells_enc, Ty.tc, scal_enc]; exact rfl)) | (with_reducible first | refine gk_tt ?_ | refine gk_ff ?_ | refine ck_t ?_ | refine ck_f ?_) | ((with_reducible first | refine gk_tf ?_ | refine gk_ft ?_ | refine gk_u ?_ | refine gk_u' ?_); first | (intro _ e; (first | rw [qqY] at e | rw [qqZ] at e); subst e) | (intro _ _ e e'; (first | rw [qqY] at e | rw [qqZ] at e); subst e; subst e'))))
  (refine retP_ret (List.range 40) rfl ?_; (try simp only [appT, if_true, if_false, Bool.false_eq_true, Bool.not_true, Bool.not_false]); exact vwA)
mutual
def occP (p : Int) : Ty → Bool
  | .mk k id ss => if (if k == 2 then id == p else false) then true else occPL p ss
def occPL (p : Int) : List Ty → Bool
  | [] => false
  | t :: ts => if occP p t then true else occPL p ts
end
theorem occPL_any (p : Int) : ∀ ss : List Ty, (ss.any fun a => occP p a) = occPL p ss
  | [] => rfl
  | t :: ts => by simp only [List.any_cons, occPL, occPL_any p ts]; cases occP p t <;> simp
end Go.Proofs.Ytbdoblgofddhdaa
/- The check that schemes work at all. -/

set_option maxRecDepth 10000
set_option linter.unusedSimpArgs false
set_option linter.unusedVariables false
namespace Go.Proofs.Ytbdoblgofddhdaa
open Go Go.Ab
def paT : Ty := .mk 7 5 [.mk 2 1 [], .mk 2 1 []]
def e1T : Ty := .mk 7 5 [.mk 3 0 [], .mk 3 0 []]
def e2T : Ty := .mk 7 5 [.mk 3 0 [], .mk 1 0 []]
theorem m1 : matchR [1] e1T paT = (true, [.mk 3 0 []]) := by rfl
theorem m2 : matchR [1] e2T paT = (false, []) := by rfl
theorem i1 : insT [1] 7 paT = .mk 7 5 [.mk 1 7 [], .mk 1 7 []] := by rfl
end Go.Proofs.Ytbdoblgofddhdaa
/- SchemeIgnoresAbsentParameters. -/
set_option maxRecDepth 10000
set_option linter.unusedSimpArgs false
set_option linter.unusedVariables false
namespace Go.Proofs.Ytbdoblgofddhdaa
open Go Go.Ab
theorem isPar_nil (k id : Int) : isPar [] k id = false := by unfold isPar; cases (k == 2) <;> rfl
theorem idx_mem {ps : List Int} {id : Int} {i : Nat} (h : idxF (fun x => id == x) ps 0 = (i : Int)) : id ∈ ps := by
  rcases idxF_spec (fun x => id == x) ps 0 with ⟨e, _⟩ | ⟨pre, b, post, hps, hb, _, _⟩
  · rw [e] at h; omega
  · have : id = b := by simpa using hb
    rw [hps, this]; simp
theorem isPar_mem {ps : List Int} {k id : Int} (h : isPar ps k id = true) : k = 2 ∧ id ∈ ps := by
  rcases par_cases ps k id with ⟨_, hk, i, _, e, _⟩ | ⟨h', _⟩
  · exact ⟨by simpa using hk, idx_mem e⟩
  · rw [h] at h'; cases h'
mutual
theorem map_absent {ps : List Int} {g : Ty → Ty × Bool} (hg : ∀ u, isPar ps u.kd u.id = false → (g u).2 = false) : ∀ t : Ty, (∀ p ∈ ps, occP p t = false) → mapT g t = t
  | .mk k id ss, h => by
    have hn : isPar ps k id = false := by
      cases e : isPar ps k id with
      | false => rfl
      | true =>
        obtain ⟨hk, hm⟩ := isPar_mem e
        have := h id hm
        subst hk
        simp [occP] at this
    have hgn := hg (.mk k id ss) hn
    simp only [mapT, hgn, Bool.false_eq_true, if_false]
    rw [map_absentL hg ss fun p hp => by
      have := h p hp
      simp only [occP] at this
      cases hc : (if k == 2 then id == p else false) with
      | true => rw [hc] at this; simp at this
      | false => rw [hc] at this; simpa using this]
theorem map_absentL {ps : List Int} {g : Ty → Ty × Bool} (hg : ∀ u, isPar ps u.kd u.id = false → (g u).2 = false) : ∀ ts : List Ty, (∀ p ∈ ps, occPL p ts = false) → mapTL g ts = ts
  | [], _ => rfl
  | t :: ts, h => by
    have h1 := map_absent hg t fun p hp => by
      have := h p hp
      simp only [occPL] at this
      split at this
      · cases this
      · rename_i hh; simpa using hh
    have h2 := map_absentL hg ts fun p hp => by
      have := h p hp
      simp only [occPL] at this
      split at this
      · cases this
      · exact this
    simp only [mapTL, h1, h2]
end
theorem app_absent {ps : List Int} {xs : List Ty} {t : Ty} (h : ∀ p ∈ ps, occP p t = false) : appT ps xs t = t := map_absent (fun u hu => by simp [appG, hu]) t h
theorem ins_absent {ps : List Int} {fv : Int} {t : Ty} (h : ∀ p ∈ ps, occP p t = false) : insT ps fv t = t := map_absent (fun u hu => by simp [insG, hu]) t h
theorem same_t (t : Ty) : PCall Try.prog 24 [t.enc, t.enc] (bb true) := by
  have := equal_ok t t
  rwa [(eqT_iff t t).2 rfl] at this
end Go.Proofs.Ytbdoblgofddhdaa
/- Matching and applying: the plain laws. -/
set_option linter.unusedSimpArgs false
set_option linter.unusedVariables false
namespace Go.Proofs.Ytbdoblgofddhdaa
open Go Go.Ab
theorem app_par {ps : List Int} {xs : List Ty} {k id : Int} {qs : List Ty} (h : isPar ps k id = true) (hl : parI ps id < xs.length) : appT ps xs (.mk k id qs) = xs.getD (parI ps id) zT := by
  have hg : appG ps xs (.mk k id qs) = (xs.getD (parI ps id) zT, true) := by simp only [appG, Ty.kd, Ty.id, h, if_true, hl, decide_true]
  simp only [appT, mapT, hg, if_true]
theorem app_not {ps : List Int} {xs : List Ty} {k id : Int} {qs : List Ty} (h : isPar ps k id = false) : appT ps xs (.mk k id qs) = .mk k id (mapTL (appG ps xs) qs) := by
  have hg : appG ps xs (.mk k id qs) = (.mk k id qs, false) := by simp only [appG, Ty.kd, Ty.id, h, Bool.false_eq_true, if_false]
  simp only [appT, mapT, hg, Bool.false_eq_true, if_false]
theorem par_lt {ps : List Int} {k id : Int} (h : isPar ps k id = true) : parI ps id < ps.length := by
  rcases par_cases ps k id with ⟨_, _, i, hi, _, e⟩ | ⟨h', _⟩
  · omega
  · rw [h] at h'; cases h'
/-- bound entries stay -/
def Keeps (As : List Ty) (Bs : List Bool) (As' : List Ty) (Bs' : List Bool) : Prop := ∀ i, Bs.getD i false = true → Bs'.getD i false = true ∧ As'.getD i zT = As.getD i zT
theorem Keeps.refl (As : List Ty) (Bs : List Bool) : Keeps As Bs As Bs := fun i h => ⟨h, rfl⟩
theorem Keeps.trans {As Bs As1 Bs1 As2 Bs2} (h : Keeps As Bs As1 Bs1) (k : Keeps As1 Bs1 As2 Bs2) : Keeps As Bs As2 Bs2 := fun i hi => by
  obtain ⟨h1, h2⟩ := h i hi
  obtain ⟨k1, k2⟩ := k i h1
  exact ⟨k1, k2.trans h2⟩
def Agree (Bs : List Bool) (As Xs : List Ty) : Prop := ∀ i, Bs.getD i false = true → Xs.getD i zT = As.getD i zT
theorem getD_setB (Bs : List Bool) (i j : Nat) (hi : i < Bs.length) : (Bs.set i true).getD j false = if i = j then true else Bs.getD j false := by
  rw [List.getD_eq_getElem?_getD, List.getElem?_set, List.getD_eq_getElem?_getD]
  by_cases h : i = j
  · subst h; simp [hi]
  · simp [h]
theorem getD_setA (As : List Ty) (i j : Nat) (t : Ty) (hi : i < As.length) : (As.set i t).getD j zT = if i = j then t else As.getD j zT := by
  rw [List.getD_eq_getElem?_getD, List.getElem?_set, List.getD_eq_getElem?_getD]
  by_cases h : i = j
  · subst h; simp [hi]
  · simp [h]
mutual
theorem mch_app (ps : List Int) : ∀ (p t : Ty) (As : List Ty) (Bs : List Bool), As.length = ps.length → Bs.length = ps.length → (mch ps p t As Bs).1 = true →
    Keeps As Bs (mch ps p t As Bs).2.1 (mch ps p t As Bs).2.2 ∧ ∀ Xs : List Ty, Xs.length = ps.length → Agree (mch ps p t As Bs).2.2 (mch ps p t As Bs).2.1 Xs → appT ps Xs p = t
  | .mk k id qs, t, As, Bs, hA, hB, h => by
    cases hp : isPar ps k id with
    | true =>
      have hi := par_lt hp
      rw [mch_par qs t As Bs hp] at h ⊢
      by_cases hb : Bs.getD (parI ps id) false = true
      · rw [if_pos hb] at h ⊢
        have e := (eqT_iff _ _).1 h
        refine ⟨Keeps.refl _ _, fun Xs hX hag => ?_⟩
        rw [app_par hp (by omega), hag _ hb]; exact e
      · rw [if_neg hb] at h ⊢
        refine ⟨fun i hbi => ?_, fun Xs hX hag => ?_⟩
        · have hne : ¬ parI ps id = i := fun e => hb (e ▸ hbi)
          rw [getD_setB _ _ _ (by omega), getD_setA _ _ _ _ (by omega), if_neg hne, if_neg hne]
          exact ⟨hbi, rfl⟩
        · have := hag (parI ps id) (by show (Bs.set (parI ps id) true).getD _ _ = true; rw [getD_setB _ _ _ (by omega), if_pos rfl])
          rw [app_par hp (by omega), this]
          show (As.set (parI ps id) t).getD _ _ = t
          rw [getD_setA _ _ _ _ (by omega), if_pos rfl]
    | false =>
      by_cases hc : t.kd == k ∧ t.id == id ∧ (t.args.length : Int) == qs.length
      · rw [mch_yes qs t As Bs hp hc] at h ⊢
        have hl : t.args.length = qs.length := by have := hc.2.2; simp at this; omega
        obtain ⟨h1, h2⟩ := mchL_app ps qs t.args As Bs hl.symm hA hB h
        refine ⟨h1, fun Xs hX hag => ?_⟩
        rw [app_not hp, h2 Xs hX hag]
        obtain ⟨k', id', ts⟩ := t
        have hk : k' = k := by simpa [Ty.kd] using hc.1
        have hd : id' = id := by simpa [Ty.id] using hc.2.1
        subst hk; subst hd; rfl
      · rw [mch_no qs t As Bs hp hc] at h; cases h
theorem mchL_app (ps : List Int) : ∀ (qs ts : List Ty) (As : List Ty) (Bs : List Bool), qs.length = ts.length → As.length = ps.length → Bs.length = ps.length → (mchL ps qs ts As Bs).1 = true →
    Keeps As Bs (mchL ps qs ts As Bs).2.1 (mchL ps qs ts As Bs).2.2 ∧ ∀ Xs : List Ty, Xs.length = ps.length → Agree (mchL ps qs ts As Bs).2.2 (mchL ps qs ts As Bs).2.1 Xs → mapTL (appG ps Xs) qs = ts
  | [], [], As, Bs, _, _, _, _ => ⟨Keeps.refl _ _, fun _ _ _ => rfl⟩
  | [], _ :: _, As, Bs, hl, _, _, _ => by simp at hl
  | _ :: _, [], As, Bs, hl, _, _, _ => by simp at hl
  | q :: qs, t :: ts, As, Bs, hl, hA, hB, h => by
    simp only [mchL] at h ⊢
    by_cases hc : (mch ps q t As Bs).1 = true
    · rw [if_pos hc] at h ⊢
      have hlen := mch_len ps q t As Bs
      obtain ⟨h1, h2⟩ := mch_app ps q t As Bs hA hB hc
      obtain ⟨h3, h4⟩ := mchL_app ps qs ts _ _ (by simpa using hl) (hlen.1.trans hA) (hlen.2.trans hB) h
      refine ⟨h1.trans h3, fun Xs hX hag => ?_⟩
      have e1 := h2 Xs hX fun i hi => by
        obtain ⟨b1, b2⟩ := h3 i hi
        rw [hag i b1, b2]
      have e2 := h4 Xs hX hag
      unfold appT at e1
      simp only [mapTL, e1, e2]
    · rw [if_neg hc] at h; cases h
end
/-- what is bound is what was put in; what is not bound is the zero type -/
def From (xs As : List Ty) (Bs : List Bool) : Prop := ∀ i, (Bs.getD i false = true → As.getD i zT = xs.getD i zT) ∧ (Bs.getD i false = false → As.getD i zT = zT)
mutual
theorem mch_back (ps : List Int) (xs : List Ty) (hx : ps.length ≤ xs.length) : ∀ (p : Ty) (As : List Ty) (Bs : List Bool), As.length = ps.length → Bs.length = ps.length → From xs As Bs →
    (mch ps p (appT ps xs p) As Bs).1 = true ∧ From xs (mch ps p (appT ps xs p) As Bs).2.1 (mch ps p (appT ps xs p) As Bs).2.2
  | .mk k id qs, As, Bs, hA, hB, hf => by
    cases hp : isPar ps k id with
    | true =>
      have hi := par_lt hp
      rw [app_par hp (by omega), mch_par qs _ As Bs hp]
      by_cases hb : Bs.getD (parI ps id) false = true
      · rw [if_pos hb]
        refine ⟨?_, hf⟩
        rw [(hf _).1 hb]; exact (eqT_iff _ _).2 rfl
      · rw [if_neg hb]
        refine ⟨rfl, fun i => ?_⟩
        show ((Bs.set (parI ps id) true).getD i false = true → (As.set (parI ps id) (xs.getD (parI ps id) zT)).getD i zT = xs.getD i zT) ∧ ((Bs.set (parI ps id) true).getD i false = false → (As.set (parI ps id) (xs.getD (parI ps id) zT)).getD i zT = zT)
        rw [getD_setB _ _ _ (by omega), getD_setA _ _ _ _ (by omega)]
        by_cases e : parI ps id = i
        · rw [if_pos e, if_pos e, e]; exact ⟨fun _ => rfl, fun h => by cases h⟩
        · rw [if_neg e, if_neg e]; exact hf i
    | false =>
      rw [app_not hp, mch_yes qs (.mk k id (mapTL (appG ps xs) qs)) As Bs hp ⟨by simp [Ty.kd], by simp [Ty.id], by simp [Ty.args, mapTL_len]⟩]
      exact mchL_back ps xs hx qs As Bs hA hB hf
theorem mchL_back (ps : List Int) (xs : List Ty) (hx : ps.length ≤ xs.length) : ∀ (qs : List Ty) (As : List Ty) (Bs : List Bool), As.length = ps.length → Bs.length = ps.length → From xs As Bs →
    (mchL ps qs (mapTL (appG ps xs) qs) As Bs).1 = true ∧ From xs (mchL ps qs (mapTL (appG ps xs) qs) As Bs).2.1 (mchL ps qs (mapTL (appG ps xs) qs) As Bs).2.2
  | [], As, Bs, _, _, hf => ⟨rfl, hf⟩
  | q :: qs, As, Bs, hA, hB, hf => by
    obtain ⟨h1, h2⟩ := mch_back ps xs hx q As Bs hA hB hf
    unfold appT at h1 h2
    have hlen := mch_len ps q (mapT (appG ps xs) q) As Bs
    simp only [mapTL, mchL, h1, if_true]
    exact mchL_back ps xs hx qs _ _ (hlen.1.trans hA) (hlen.2.trans hB) h2
end
theorem match_app {ps : List Int} {t p : Ty} (h : (matchR ps t p).1 = true) : (matchR ps t p).2.length = ps.length ∧ appT ps (matchR ps t p).2 p = t := by
  unfold matchR at h ⊢
  have hl := mch_len ps p t (List.replicate ps.length zT) (List.replicate ps.length false)
  simp only at h
  simp only [h, if_true]
  obtain ⟨_, h2⟩ := mch_app ps p t _ _ (by simp) (by simp) h
  exact ⟨by simpa using hl.1, h2 _ (by simpa using hl.1) fun i _ => rfl⟩
theorem match_not {ps : List Int} {t p : Ty} (h : (matchR ps t p).1 = false) : (matchR ps t p).2 = [] := by
  unfold matchR at h ⊢
  simp only at h
  simp only [h, Bool.false_eq_true, if_false]
theorem match_back {ps : List Int} {p : Ty} {xs : List Ty} (hx : ps.length ≤ xs.length) : (matchR ps (appT ps xs p) p).1 = true ∧ (matchR ps (appT ps xs p) p).2.length = ps.length ∧
    ∀ i, ((matchR ps (appT ps xs p) p).2.getD i zT).kd = 0 ∨ (matchR ps (appT ps xs p) p).2.getD i zT = xs.getD i zT := by
  obtain ⟨h1, h2⟩ := mch_back ps xs hx p (List.replicate ps.length zT) (List.replicate ps.length false) (by simp) (by simp) fun i => by
    have e1 : (List.replicate ps.length false).getD i false = false := by
      rw [List.getD_eq_getElem?_getD, List.getElem?_replicate]; split <;> rfl
    have e2 : (List.replicate ps.length zT).getD i zT = zT := by
      rw [List.getD_eq_getElem?_getD, List.getElem?_replicate]; split <;> rfl
    rw [e1, e2]; exact ⟨fun h => (by cases h), fun _ => rfl⟩
  have hl := mch_len ps p (appT ps xs p) (List.replicate ps.length zT) (List.replicate ps.length false)
  unfold matchR
  simp only [h1, if_true, true_and]
  refine ⟨by simpa using hl.1, fun i => ?_⟩
  cases hb : (mch ps p (appT ps xs p) (List.replicate ps.length zT) (List.replicate ps.length false)).2.2.getD i false with
  | true => exact .inr ((h2 i).1 hb)
  | false => rw [(h2 i).2 hb]; exact .inl rfl
end Go.Proofs.Ytbdoblgofddhdaa
