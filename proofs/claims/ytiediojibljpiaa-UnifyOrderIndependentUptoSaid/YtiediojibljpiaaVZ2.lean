/- Z2: joined from Zb2. -/
import Derived.Test.YtiediojibljpiaaVZ1
import Derived.Maps.RangeRun
/- Operations on objects, calls that write them, code: all sound. -/
set_option linter.unusedVariables false
set_option linter.unusedSimpArgs false
namespace Go.Ab
open Go.RowKit
/-- a function that may write objects: what it hands back, the objects behind the call -/
def OCall (P : Program) (f : FuncId) (args : List PV) (O : OS) (Post : PV → OS → Prop) : Prop :=
  Enters P f ∧ ∀ I w us, ImmOk I w → (∀ k x, O k = some x → OAt I w k x ∧ ∀ a v, I a = some v → a.block ≠ k) → RPL I args us → Calls P f us.toArray w fun e w' =>
    ∃ u J r O', e = .returned u ∧ Post r O' ∧ I.le J ∧ (∀ a v, J a = some v → a.block < w.heap.size → I a = some v) ∧ ImmOk J w' ∧ RP J r u ∧
      (∀ k x, O' k = some x → OAt J w' k x ∧ ∀ a v, J a = some v → a.block ≠ k) ∧ (∀ k x, O' k = some x → k < w.heap.size → O k ≠ none) ∧
      w'.os = w.os ∧ w'.tape = w.tape ∧ w'.output = w.output ∧ w.heap.size ≤ w'.heap.size ∧ ∀ k, k < w.heap.size → O k = none → w'.heap[k]? = w.heap[k]?
theorem OCall.mono {P : Program} {f : FuncId} {args : List PV} {O : OS} {Post Post' : PV → OS → Prop} (h : OCall P f args O Post) (hp : ∀ r O', Post r O' → Post' r O') : OCall P f args O Post' :=
  ⟨h.1, fun I w us h1 h2 h3 => (h.2 I w us h1 h2 h3).mono fun e w' ⟨u, J, r, O', a1, a2, a3⟩ => ⟨u, J, r, O', a1, hp _ _ a2, a3⟩⟩
def OX (P : Program) (o : AO) (f : FV) (O : OS) (K : V → OS → Prop) : Prop :=
  match o with
  | .mkmap => ∀ k, O k = none → K (.pv (.lit (.map (some k)))) (oupd O k (.mp []))
  | .alloc ty sz zero => ∀ k, O k = none → K (.pv (.lit (.pointer (some ⟨k, 0, none⟩)))) (oupd O k (.cells ty (zero.map .lit)))
  | .lookup g zero ok x y => match ev f x, ev f y with
    | .pv (.lit (.map (some m))), .pv (.lit (.int .i64 a)) => match O m with
      | some (.mp L) => K (.pv (if ok then .tup [(lkm L a).getD (mkp g (zero.map .lit)), .lit (.bool (lkm L a).isSome)] else (lkm L a).getD (mkp g (zero.map .lit)))) O
      | _ => False
    | _, _ => False
  | .box ty sz x => match (ev f x).cells? with
    | some cs => match V.pureL cs with
      | some ps => cs.length = sz ∧ ∀ k, O k = none → K (.pv (.lit (.pointer (some ⟨k, 0, none⟩)))) (oupd O k (.cells ty ps))
      | none => False
    | none => False
  | .mupd x y z => match ev f x, ev f y with
    | .pv (.lit (.map (some m))), .pv (.lit (.int .i64 a)) => match O m with
      | some (.mp L) => ∃ p, Vw (fun _ => none) [] (ev f z) p ∧ K (lv undef) (oupd O m (.mp (mins L a p)))
      | _ => False
    | _, _ => False
  | .mrange x => match ev f x with
    | .pv (.lit (.map (some m))) => match O m with
      | some (.mp L) => ∀ k, O k = none → K (.pv (.lit (.pointer (some ⟨k, 0, none⟩)))) (oupd O k (.it m L.length []))
      | _ => False
    | _ => False
  | .mnext x => match ev f x with
    | .pv (.lit (.pointer (some ⟨k, 0, none⟩))) => match O k with
      | some (.it m n seen) => match O m with
        | some (.mp L) => n = L.length ∧ ((∀ i, i < n → i ∈ seen) → K (.pv (.tup [.lit (.bool false)])) O) ∧ ∀ i kv, L[i]? = some kv → ¬ i ∈ seen → K (.pv (.tup [.lit (.bool true), .lit (.int .i64 kv.1), kv.2])) (oupd O k (.it m n (seen ++ [i])))
        | _ => False
      | _ => False
    | _ => False
  | .mentry x => match ev f x with
    | .pv (.lit (.pointer (some ⟨k, 0, none⟩))) => match O k with
      | some (.it m n seen) => match O m with
        | some (.mp L) => n = L.length ∧ ∃ seen' i kv, seen = seen' ++ [i] ∧ L[i]? = some kv ∧ K (.pv (.tup [.lit (.int .i64 kv.1), kv.2])) O
        | _ => False
      | _ => False
    | _ => False
  | .load g n x => match ev f x with
    | .pv (.lit (.pointer (some ⟨m, off, none⟩))) => match O m with
      | some (.cells _ xs) => off + n ≤ xs.length ∧ K (.pv (mkp g ((xs.drop off).take n))) O
      | _ => False
    | _ => False
  | .store n x y => match ev f x, (ev f y).cells? with
    | .pv (.lit (.pointer (some ⟨m, off, none⟩))), some cs => match O m, V.pureL cs with
      | some (.cells ty xs), some ps => ps.length = n ∧ off + n ≤ xs.length ∧ K (lv undef) (oupd O m (.cells ty (splP xs off ps)))
      | _, _ => False
    | _, _ => False
  | .faddr off x => match ev f x with
    | .pv (.lit (.pointer (some ⟨m, o, none⟩))) => K (.pv (.lit (.pointer (some ⟨m, o + off, none⟩)))) O
    | _ => False
  | .nilc x => match ev f x with
    | .pv (.lit (.pointer (some a))) => K (.pv (.lit (.pointer (some a)))) O
    | _ => False
  | .call fx args => ∃ g ps qs Post, (ev f fx).pure = some (.fn g qs) ∧ V.pureL (args.map (ev f)) = some ps ∧ OCall P g (ps ++ qs) O Post ∧ ∀ r O', Post r O' → K (.pv r) O'
  | _ => False

theorem RPL_set {I : Imm} {p : PV} {v : Value} (hp : RP I p v) : ∀ {j : Nat} {ps : List PV} {us : List Value}, RPL I ps us → RPL I (ps.set j p) (us.set j v)
  | _, [], us, h => by have : us = [] := h; subst this; simp [RPL]
  | 0, q :: ps, us, h => by
    simp only [RPL] at h
    obtain ⟨u, us', rfl, h1, h2⟩ := h
    exact ⟨v, us', rfl, hp, h2⟩
  | j + 1, q :: ps, us, h => by
    simp only [RPL] at h
    obtain ⟨u, us', rfl, h1, h2⟩ := h
    exact ⟨u, _, rfl, h1, RPL_set hp h2⟩
/-- cells of one object are written -/
theorem run_storeCells {P : Program} {ty : TypeId} {k : Nat} {I : Imm} : ∀ (new : List PV) (us : List Value) (w : World) (arr : Array Value) (xs : List PV) (o m : Nat), w.heap[k]? = some (.cells arr ty (0, 0)) → (∀ u ∈ arr.toList, u.oneCell' = true) → RPL I xs arr.toList →
    RPL I new us → (∀ u ∈ us, u.oneCell' = true) → o + m + new.length ≤ xs.length →
    ∃ w' arr', (Go.storeCells ⟨k, o, none⟩ us m).run P w = .ok () w' ∧ w'.heap[k]? = some (.cells arr' ty (0, 0)) ∧ (∀ u ∈ arr'.toList, u.oneCell' = true) ∧ RPL I (splP xs (o + m) new) arr'.toList ∧
      (∀ j, j ≠ k → w'.heap[j]? = w.heap[j]?) ∧ w'.heap.size = w.heap.size ∧ w'.os = w.os ∧ w'.tape = w.tape ∧ w'.output = w.output
  | [], us, w, arr, xs, o, m, hk, h1, h2, h3, h4, hl => by
    have : us = [] := h3
    subst this
    exact ⟨w, arr, by simp [Go.storeCells], hk, h1, h2, fun _ _ => rfl, rfl, rfl, rfl, rfl⟩
  | p :: new, us, w, arr, xs, o, m, hk, h1, h2, h3, h4, hl => by
    simp only [RPL] at h3
    obtain ⟨u, us', rfl, h3, h5⟩ := h3
    simp only [List.length_cons] at hl
    have hlen := RPL_length h2
    have hsz : o + m < arr.size := by rw [Array.length_toList] at hlen; omega
    have hcell : w.cell? ⟨k, o + m, none⟩ = some (arr[o + m]) := by rw [cell_arr hk, Array.getElem?_eq_getElem hsz]
    have hfz : w.frozen? ⟨k, o + m, none⟩ = false := by simp [World.frozen?, hk]
    have hk' : (w.setCell ⟨k, o + m, none⟩ u).heap[k]? = some (.cells (arr.setIfInBounds (o + m) u) ty (0, 0)) := by
      simp only [World.setCell, Array.getElem?_modify, if_true, hk]; simp
    have hone : ∀ v ∈ (arr.setIfInBounds (o + m) u).toList, v.oneCell' = true := fun v hv => by
      rw [Array.toList_setIfInBounds] at hv
      rcases List.mem_or_eq_of_mem_set hv with hv | rfl
      · exact h1 v hv
      · exact h4 v (by simp)
    have hrpl : RPL I (xs.set (o + m) p) (arr.setIfInBounds (o + m) u).toList := by
      rw [Array.toList_setIfInBounds]; exact RPL_set h3 h2
    obtain ⟨w', arr', e1, e2, e3, e4, e5, e6, e7, e8, e9⟩ := run_storeCells (P := P) new us' (w.setCell ⟨k, o + m, none⟩ u) _ (xs.set (o + m) p) o (m + 1) hk' hone hrpl h5 (fun v hv => h4 v (by simp [hv])) (by rw [List.length_set]; omega)
    refine ⟨w', arr', ?_, e2, e3, e4, fun j hj => (e5 j hj).trans (Below.heap_setCell _ _ _ _ fun hh => hj hh), by rw [e6]; simp, e7, e8, e9⟩
    have hadd : (⟨k, o, none⟩ : Addr).add m = ⟨k, o + m, none⟩ := add_plain' ..
    simp only [Go.storeCells, Sem.run_bind, hadd]
    rw [run_store _ _ _ _ _ (h4 u (by simp))]
    simp only [hcell, hfz, Bool.false_eq_true, if_false, Result.andThen_ok]
    exact e1
mutual
theorem Vw0_any {h h2 : HF} : ∀ {v : V} {p : PV}, Vw h [] v p → Vw h2 [] v p
  | _, _, .pv p => .pv p
  | _, _, .weak p q hw => .weak p q hw
  | _, _, .ptr b i off k cs ps hb hk hcs hl => by cases hb
  | _, _, .row b n fl k ps hb hk hn hl => by cases hb
  | _, _, .agg cs ps hl => .agg cs ps (VwL0_any hl)
  | _, _, .tup cs ps hl => .tup cs ps (VwL0_any hl)
  | _, _, .fn f cs ps hl => .fn f cs ps (VwL0_any hl)
theorem VwL0_any {h h2 : HF} : ∀ {v : List V} {p : List PV}, VwL h [] v p → VwL h2 [] v p
  | _, _, .nil => .nil
  | _, _, .cons c cs p ps h1 h2 => .cons c cs p ps (Vw0_any h1) (VwL0_any h2)
end
theorem Vw0_R {S : Nat → Prop} {G : Gh} {h : HF} {w : World} (rel : Rel S G h w) {v : V} {p : PV} {u : Value} (hv : Vw (fun _ => none) [] v p) (r : R G v u) : RP G.I p u := by
  have h1 := Vw_R rel (Vw0_any (h2 := h) hv) r
  have h2 : (lend G h [] w).le G.I := fun a v e => by
    rcases lend_spec e with e1 | ⟨b, k, hb, _⟩
    · exact e1
    · cases hb
  exact RP_mono h2 _ _ h1
theorem zShape_R {I : Imm} {g : Bool} {zv : Value} (hs : zShape g zv = true) (h1 : ∀ u ∈ zv.cells.toList, u.oneCell' = true) (hc : g = true ∨ zv.cells.toList.length = 1) : RP I (mkp g (zv.cells.toList.map .lit)) zv := by
  have h := mkp_R (I := I) (g := g) (RPL_lits zv.cells.toList) h1 (by simpa using hc)
  have : mkc g zv.cells.toList = zv := by
    unfold mkc
    cases g with
    | true => cases zv <;> simp [zShape] at hs <;> simp [Value.cells]
    | false => cases zv <;> simp [zShape] at hs <;> simp [Value.cells]
  rw [this] at h; exact h
theorem OX_sound {P : Program} {co : Oper} {o : AO} {f f2 : FV} {O : OS} {K : V → OS → Prop} (hc : compOp P co.op = some o) (hA : OX P o f O K) {N : Nat} {S : Nat → Prop} {G : Gh} {h : HF} {a : Act} {w : World} (st : St N S G f2 h a w) (hx : ∀ x ∈ co.op.operands.toList, ev f2 x = ev f x) (r : ORel O G h w)
    {Kn : Act → World → Prop} {Q : Exit → Act → World → Prop}
    (hk : ∀ u w' G' v O', K v O' → Gh.le S G G' → Rel S G' h w' → ORel O' G' h w' → TrO G h O w G' h O' w' → R G' v u → v.bd S → Kn (a.put co.dst u) w') : co.wp P a w Kn Q := by
  -- an operation that yields a value, one that yields none
  have val : ∀ {u w' v O'}, (execOp a.eval co).run P w = .ok (.value u) w' → K v O' → Rel S G h w' → ORel O' G h w' → TrO G h O w G h O' w' → R G v u → v.bd S → co.wp P a w Kn Q := fun {u w' v O'} hr h1 h2 h3 h4 h5 h6 => by
    unfold Oper.wp; rw [hr]; exact hk u w' G v O' h1 (Gh.le.refl S G) h2 h3 h4 h5 h6
  have skp : ∀ {w' O'}, (execOp a.eval co).run P w = .ok .skip w' → K (lv undef) O' → Rel S G h w' → ORel O' G h w' → TrO G h O w G h O' w' → co.wp P a w Kn Q := fun {w' O'} hr h1 h2 h3 h4 => by
    unfold Oper.wp; rw [hr]; exact hk undef w' G (lv undef) O' h1 (Gh.le.refl S G) h2 h3 h4 (by simp [R, lv, RP]) (by simp [lv, V.bd])
  have same : Rel S G h w ∧ ORel O G h w ∧ TrO G h O w G h O w := ⟨st.rel, r, TrO.refl _ _ _ _⟩
  cases hop : co.op with
  | makeMap t rv =>
    rw [hop] at hc
    cases rv with
    | some x => simp [compOp] at hc
    | none =>
      simp only [compOp, Option.some.injEq] at hc; subst hc
      obtain ⟨h1, h2, h3⟩ := st.rel.objNew r (.map #[] 0) (.mp []) ⟨#[], heap_alloc_new w _, rfl⟩
      exact val (u := .map (some w.heap.size)) (w' := w.alloc (.map #[] 0)) (by simp [execOp, hop, Instr.makeMap, newObj, Sem.run, Result.andThen]) (hA w.heap.size (r.fresh (Nat.le_refl _))) h1 h2 h3 (by simp [R, RP]) (by simp [V.bd])
  | alloc e =>
    rw [hop] at hc
    simp only [compOp] at hc
    split at hc
    case h_2 => cases hc
    rename_i n z hz
    simp only [Option.some.injEq] at hc; subst hc
    obtain ⟨i, v, hi, hv, hpos, hsz, hvs, rfl, hzl, hone⟩ := zeroOf_spec hz
    obtain ⟨h1, h2, h3⟩ := st.rel.objNew r (.cells v.cells e) (.cells e (v.cells.toList.map .lit)) ⟨v.cells, heap_alloc_new w _, hone, RPL_lits _⟩
    exact val (u := .pointer (some ⟨w.heap.size, 0, none⟩)) (w' := w.alloc (.cells v.cells e)) (by simp [execOp, hop, Instr.alloc, zeroValue, typeInfo, hi, hv, newVar, newRow]) (hA w.heap.size (r.fresh (Nat.le_refl _))) h1 h2 h3 (by simp [R, RP]) (by simp [V.bd])
  | box e x =>
    rw [hop] at hc
    simp only [compOp] at hc
    split at hc
    case h_2 => cases hc
    rename_i n z hz
    simp only [Option.some.injEq] at hc; subst hc
    simp only [OX] at hA
    split at hA
    case h_2 => exact hA.elim
    rename_i cs hx0
    split at hA
    case h_2 => exact hA.elim
    rename_i ps hps
    obtain ⟨hlen, hA⟩ := hA
    obtain ⟨i, v, hi, hv, hpos, hsz, hvs, rfl, hzl, hone⟩ := zeroOf_spec hz
    obtain ⟨g3, g4⟩ := cells_R hx0 (hx x (by simp [hop, Op.operands]) ▸ st.ev x)
    have g5 := pureL_R cs ps _ hps g3
    obtain ⟨h1, h2, h3⟩ := st.rel.objNew r (.cells (a.eval x).cells e) (.cells e ps) ⟨(a.eval x).cells, heap_alloc_new w _, g4, g5⟩
    refine val (u := .pointer (some ⟨w.heap.size, 0, none⟩)) (w' := w.alloc (.cells (a.eval x).cells e)) ?_ (hA w.heap.size (r.fresh (Nat.le_refl _))) h1 h2 h3 (by simp [R, RP]) (by simp [V.bd])
    simp [execOp, hop, Instr.box, newVar, newRow]
  | lookup t x i ok =>
    rw [hop] at hc
    simp only [compOp] at hc
    split at hc
    case h_2 => cases hc
    rename_i kt et hu
    split at hc
    case h_2 => cases hc
    rename_i n z g hkt hz hg
    split at hc
    case isFalse => cases hc
    rename_i hcond
    simp only [Option.some.injEq] at hc; subst hc
    obtain ⟨ti, zv, hi, hv, hpos, hsz, hvs, rfl, hzl, hone⟩ := zeroOf_spec hz
    obtain ⟨hcond, hsh⟩ := hcond
    rw [hi] at hsh
    simp only [Option.bind_some, hv, Option.any_some] at hsh
    simp only [OX] at hA
    split at hA
    case h_2 => exact hA.elim
    rename_i m a0 hx0 hy0
    split at hA
    case h_2 => exact hA.elim
    rename_i L hm
    have e1 := st.ev x; rw [hx x (by simp [hop, Op.operands]), hx0] at e1; simp only [R, RP] at e1
    have e2 := st.ev i; rw [hx i (by simp [hop, Op.operands]), hy0] at e2; simp only [R, RP] at e2
    obtain ⟨es, e3, e4⟩ := r.at_ m _ hm
    have hz2 : RP G.I (mkp g (zv.cells.toList.map .lit)) zv := zShape_R hsh hone (by rcases hcond with hcond | hcond; exact .inl hcond; exact .inr (by rw [hzl]; exact hcond))
    have hck : (Instr.checkKey es.isEmpty 10000 kt (.int .i64 a0)).run P w = .ok () w := MapKept.run_checkKey (n := 9999) hkt (by simp [MapKept.IsKey]) _
    have hzr : (zeroValue et).run P w = .ok zv w := by simp [zeroValue, typeInfo, hi, hv]
    obtain ⟨m1, m2⟩ := MEs_upd (I := G.I) (a := a0) (p := .lit undef) (v := undef) (by simp [RP]) L 0 0 es.toList e4
    cases hl : lkm L a0 with
    | none =>
      rw [hl] at hA
      obtain ⟨f1, _⟩ := m1 hl
      have hf := MapKept.run_findKey (P := P) (w := w) hkt f1
      refine val (u := if ok then .tuple #[zv, .bool false] else zv) (w' := w) ?_ hA same.1 same.2.1 same.2.2 ?_ ?_
      · cases ok <;> simp [execOp, hop, e1, e2, Instr.lookup, run_underlying hu, MapKept.run_getObj_map e3, hck, hf, hzr, Result.andThen]
      · cases ok
        · simpa [R] using hz2
        · simp only [if_true, R, RP, Option.getD_none, Option.isSome_none]; exact ⟨_, rfl, by simp only [RPL, RP]; exact ⟨_, _, rfl, hz2, _, _, rfl, rfl, rfl⟩⟩
      · cases ok <;> simp [V.bd]
    | some q =>
      rw [hl] at hA
      obtain ⟨n', v0, f1, f2, _⟩ := m2 q hl
      have hf := MapKept.run_findKey (P := P) (w := w) hkt f1
      refine val (u := if ok then .tuple #[v0, .bool true] else v0) (w' := w) ?_ hA same.1 same.2.1 same.2.2 ?_ ?_
      · cases ok <;> simp [execOp, hop, e1, e2, Instr.lookup, run_underlying hu, MapKept.run_getObj_map e3, hck, hf, Result.andThen]
      · cases ok
        · simpa [R] using f2
        · simp only [if_true, R, RP, Option.getD_some, Option.isSome_some]; exact ⟨_, rfl, by simp only [RPL, RP]; exact ⟨_, _, rfl, f2, _, _, rfl, rfl, rfl⟩⟩
      · cases ok <;> simp [V.bd]
  | mapUpdate t x i y =>
    rw [hop] at hc
    simp only [compOp] at hc
    split at hc
    case h_2 => cases hc
    rename_i kt et hu
    split at hc
    case h_2 => cases hc
    rename_i hkt
    simp only [Option.some.injEq] at hc; subst hc
    simp only [OX] at hA
    split at hA
    case h_2 => exact hA.elim
    rename_i m a0 hx0 hy0
    split at hA
    case h_2 => exact hA.elim
    rename_i L hm
    obtain ⟨p, hz0, hA⟩ := hA
    have e1 := st.ev x; rw [hx x (by simp [hop, Op.operands]), hx0] at e1; simp only [R, RP] at e1
    have e2 := st.ev i; rw [hx i (by simp [hop, Op.operands]), hy0] at e2; simp only [R, RP] at e2
    have e5 := Vw0_R st.rel hz0 (hx y (by simp [hop, Op.operands]) ▸ st.ev y)
    obtain ⟨es, e3, e4⟩ := r.at_ m _ hm
    have hck : (Instr.checkKey false 10000 kt (.int .i64 a0)).run P w = .ok () w := MapKept.run_checkKey (n := 9999) hkt (by simp [MapKept.IsKey]) _
    obtain ⟨m1, m2⟩ := MEs_upd (I := G.I) (a := a0) (p := p) (v := a.eval y) e5 L 0 0 es.toList e4
    have hlt : m < w.heap.size := (Array.getElem?_eq_some_iff.1 e3).1
    cases hl : lkm L a0 with
    | none =>
      obtain ⟨f1, f2, f3⟩ := m1 hl
      have hf := MapKept.run_findKey (P := P) (w := w) hkt f1
      obtain ⟨h1, h2, h3⟩ := st.rel.obj r (w' := { w with heap := w.heap.setIfInBounds m (.map (es.push { key := .int .i64 a0, val := a.eval y, born := L.length }) (L.length + 1)) }) (y := .mp (mins L a0 p)) hm (by simp) (fun j hj => by simp [Ne.symm hj]) rfl rfl rfl
        ⟨es.push { key := .int .i64 a0, val := a.eval y, born := L.length }, by simp [hlt, f3], by rw [Array.toList_push]; simpa using f2⟩
      refine skp ?_ hA h1 h2 h3
      simp [execOp, hop, e1, e2, Instr.mapUpdate, run_underlying hu, MapKept.run_getObj_map e3, hck, hf, MapKept.run_setObj_map _ e3, Result.andThen]
    | some q =>
      obtain ⟨n', v0, f1, f2, f3, f4, f5⟩ := m2 q hl
      rw [Nat.zero_add] at f1
      have hf := MapKept.run_findKey (P := P) (w := w) hkt f1
      rw [Array.getElem?_toList] at f3
      obtain ⟨h1, h2, h3⟩ := st.rel.obj r (w' := { w with heap := w.heap.setIfInBounds m (.map (es.modify n' fun e => { e with key := .int .i64 a0, val := a.eval y }) L.length) }) (y := .mp (mins L a0 p)) hm (by simp) (fun j hj => by simp [Ne.symm hj]) rfl rfl rfl
        ⟨es.modify n' fun e => { e with key := .int .i64 a0, val := a.eval y }, by simp [hlt, f5], by rw [Array.toList_modify]; exact f4⟩
      refine skp ?_ hA h1 h2 h3
      have hkts : (Instr.keyThatStays (.int .i64 a0) (.int .i64 a0)).run P w = .ok (.int .i64 a0) w := by simp [Instr.keyThatStays, Instr.sameBits]
      simp [execOp, hop, e1, e2, Instr.mapUpdate, run_underlying hu, MapKept.run_getObj_map e3, hck, hf, f3, hkts, MapKept.run_setObj_map _ e3, Result.andThen]
  | range t x =>
    rw [hop] at hc
    simp only [compOp] at hc
    split at hc
    case h_2 => cases hc
    rename_i kt et hu
    split at hc
    case h_2 => cases hc
    rename_i hkt
    simp only [Option.some.injEq] at hc; subst hc
    simp only [OX] at hA
    split at hA
    case h_2 => exact hA.elim
    rename_i m hx0
    split at hA
    case h_2 => exact hA.elim
    rename_i L hm
    have e1 := st.ev x; rw [hx x (by simp [hop, Op.operands]), hx0] at e1; simp only [R, RP] at e1
    obtain ⟨es, e3, e4⟩ := r.at_ m _ hm
    obtain ⟨h1, h2, h3⟩ := st.rel.objNew r (.mapIter (some m) L.length #[] L.length) (.it m L.length []) (heap_alloc_new w _)
    refine val (u := .pointer (some ⟨w.heap.size, 0, none⟩)) (w' := w.alloc (.mapIter (some m) L.length #[] L.length)) ?_ (hA w.heap.size (r.fresh (Nat.le_refl _))) h1 h2 h3 (by simp [R, RP]) (by simp [V.bd])
    simp [execOp, hop, e1, run_range_map w t kt et m es L.length hu e3, Result.andThen]
  | next x isS =>
    rw [hop] at hc
    cases isS with
    | true => simp [compOp] at hc
    | false =>
    simp only [compOp, Option.some.injEq] at hc; subst hc
    simp only [OX] at hA
    split at hA
    case h_2 => exact hA.elim
    rename_i k hx0
    split at hA
    case h_2 => exact hA.elim
    rename_i m n seen hkk
    split at hA
    case h_2 => exact hA.elim
    rename_i L hm
    obtain ⟨hn, hA1, hA2⟩ := hA
    subst hn
    have e1 := st.ev x; rw [hx x (by simp [hop, Op.operands]), hx0] at e1; simp only [R, RP] at e1
    obtain ⟨es, e3, e4⟩ := r.at_ m _ hm
    have e5 := r.at_ k _ hkk
    simp only [OAt] at e5
    have hold : ∀ x ∈ es.toList, x.born < L.length := fun y hy => by have := (MEs_ge e4 y hy).2; omega
    rcases run_next_at (P := P) w co.type k m L.length L.length seen.toArray es L.length e5 e3 hold (Nat.le_refl _) with ⟨h0, hrun⟩ | ⟨e, he, w1, hw1, hrun⟩
    · have hall : ∀ i, i < L.length → i ∈ seen := fun i hi => by
        obtain ⟨e, g1, g2, g3, g4⟩ := MEs_at (j := i) (kv := L[i]) e4 (by simp)
        rw [Nat.zero_add] at g4
        by_cases hs : i ∈ seen
        · exact hs
        · exfalso
          have : e ∈ leftOf es seen.toArray := by
            unfold leftOf
            rw [Array.mem_filter]
            refine ⟨by rw [← Array.mem_toList_iff]; exact List.mem_of_getElem? g1, by simp [g4, hs]⟩
          rw [Array.eq_empty_of_size_eq_zero h0] at this
          simp at this
      refine val (u := .tuple #[.bool false]) (w' := w) ?_ (hA1 hall) same.1 same.2.1 same.2.2 (by simp [R, RP, RPL]) (by simp [V.bd])
      simp [execOp, hop, e1, hrun, Result.andThen]
    · have hmem : e ∈ es.toList ∧ ¬ e.born ∈ seen := by
        unfold leftOf at he
        simp only [Array.toList_filter, List.mem_filter] at he
        exact ⟨he.1, by simpa using he.2⟩
      obtain ⟨j, kv, g1, g2, g3, g4, g5⟩ := MEs_mem e4 hmem.1
      rw [Nat.zero_add] at g5
      have hlt : k < w.heap.size := (Array.getElem?_eq_some_iff.1 e5).1
      have hh : w1.heap = w.heap ∧ w1.os = w.os ∧ w1.tape = w.tape ∧ w1.output = w.output := by rcases hw1 with rfl | rfl <;> exact ⟨rfl, rfl, rfl, rfl⟩
      obtain ⟨h1, h2, h3⟩ := st.rel.obj r (w' := ChangeMaps.setBlock w1 k (.mapIter (some m) L.length (seen.toArray.push e.born) L.length)) (y := .it m L.length (seen ++ [e.born])) hkk (by simp [ChangeMaps.setBlock, hh.1]) (fun j hj => by simp [ChangeMaps.setBlock, hh.1, Ne.symm hj]) hh.2.1 hh.2.2.1 hh.2.2.2
        (by simp [OAt, ChangeMaps.setBlock, hh.1, hlt])
      refine val (u := .tuple #[.bool true, e.key, e.val]) (w' := ChangeMaps.setBlock w1 k (.mapIter (some m) L.length (seen.toArray.push e.born) L.length)) ?_ (hA2 e.born kv (by rw [g5]; exact g1) hmem.2) h1 h2 h3 ?_ (by simp [V.bd])
      · simp [execOp, hop, e1, hrun, Result.andThen]
      · simp only [R, RP]
        exact ⟨_, rfl, by simp only [RPL, RP]; exact ⟨_, _, rfl, rfl, _, _, rfl, g3, _, _, rfl, g4, rfl⟩⟩
  | entry x =>
    rw [hop] at hc
    simp only [compOp, Option.some.injEq] at hc; subst hc
    simp only [OX] at hA
    split at hA
    case h_2 => exact hA.elim
    rename_i k hx0
    split at hA
    case h_2 => exact hA.elim
    rename_i m n seen hkk
    split at hA
    case h_2 => exact hA.elim
    rename_i L hm
    obtain ⟨hn, seen', i, kv, hs, hL, hA⟩ := hA
    subst hn; subst hs
    have e1 := st.ev x; rw [hx x (by simp [hop, Op.operands]), hx0] at e1; simp only [R, RP] at e1
    obtain ⟨es, e3, e4⟩ := r.at_ m _ hm
    have e5 := r.at_ k _ hkk
    simp only [OAt] at e5
    obtain ⟨e, g1, g2, g3, g4⟩ := MEs_at e4 hL
    rw [Nat.zero_add] at g4
    have hrun := run_entry_at (P := P) w k m L.length seen'.toArray es L.length e (by rw [e5, g4]; simp) e3 (List.mem_of_getElem? g1) (MEs_nodup e4)
    refine val (u := .tuple #[e.key, e.val]) (w' := w) ?_ hA same.1 same.2.1 same.2.2 ?_ (by simp [V.bd])
    · simp [execOp, hop, e1, hrun, Result.andThen]
    · simp only [R, RP]
      exact ⟨_, rfl, by simp only [RPL, RP]; exact ⟨_, _, rfl, g2, _, _, rfl, g3, rfl⟩⟩
  | load t x =>
    rw [hop] at hc
    simp only [compOp] at hc
    split at hc
    case h_2 => cases hc
    rename_i g i hg hi
    split at hc
    case isFalse => cases hc
    rename_i hcond
    simp only [Option.some.injEq] at hc; subst hc
    simp only [OX] at hA
    split at hA
    case h_2 => exact hA.elim
    rename_i m off hx0
    split at hA
    case h_2 => exact hA.elim
    rename_i ty xs hm
    obtain ⟨hle, hA⟩ := hA
    have e1 := st.ev x; rw [hx x (by simp [hop, Op.operands]), hx0] at e1; simp only [R, RP] at e1
    obtain ⟨arr, e3, e4, e5⟩ := r.at_ m _ hm
    have hlen := RPL_length e5
    have hl : ((arr.toList.drop off).take i.size).length = i.size := by rw [List.length_take, List.length_drop]; omega
    refine val (u := mkc g ((arr.toList.drop off).take i.size)) (w' := w) ?_ hA same.1 same.2.1 same.2.2 ?_ (by simp [V.bd])
    · simp only [execOp, hop, e1, Sem.run_bind]
      rw [run_loadAt' hg hi hcond ⟨m, off, none⟩ _ hl fun j u hj => ?_]
      · rfl
      · rw [add_plain', cell_arr e3]
        have hji : j < i.size := by have := (List.getElem?_eq_some_iff.1 hj).1; omega
        rw [List.getElem?_take, if_pos hji, List.getElem?_drop, Array.getElem?_toList] at hj
        exact hj
    · simp only [R]
      refine mkp_R (RPL_take _ (RPL_drop _ e5)) (fun u hu => e4 u (List.mem_of_mem_drop (List.mem_of_mem_take hu))) ?_
      rcases hcond with hcond | hcond
      · exact .inl hcond
      · right; simp; omega
  | store t x y =>
    rw [hop] at hc
    simp only [compOp] at hc
    split at hc
    case h_2 => cases hc
    rename_i ti hi
    simp only [Option.some.injEq] at hc; subst hc
    simp only [OX] at hA
    split at hA
    case h_2 => exact hA.elim
    rename_i m off cs hx0 hy0
    split at hA
    case h_2 => exact hA.elim
    rename_i ty xs ps hm hps
    obtain ⟨hnl, hle, hA⟩ := hA
    have e1 := st.ev x; rw [hx x (by simp [hop, Op.operands]), hx0] at e1; simp only [R, RP] at e1
    obtain ⟨arr, e3, e4, e5⟩ := r.at_ m _ hm
    obtain ⟨h3, h4⟩ := cells_R hy0 (hx y (by simp [hop, Op.operands]) ▸ st.ev y)
    have h5 := pureL_R cs ps _ hps h3
    obtain ⟨w', arr', g1, g2, g3, g4, g5, g6, g7, g8, g9⟩ := run_storeCells (P := P) ps _ w arr xs off 0 e3 e4 e5 h5 h4 (by omega)
    obtain ⟨k1, k2, k3⟩ := st.rel.obj r (w' := w') (y := .cells ty (splP xs off ps)) hm g6 g5 g7 g8 g9 ⟨arr', g2, g3, by simpa using g4⟩
    refine skp (w' := w') ?_ hA k1 k2 k3
    have hsz : (a.eval y).cells.size = ti.size := by have := RPL_length h5; simp at this; omega
    have h6 : (sizeOf t).run P w = .ok ti.size w := by simp [sizeOf, typeInfo, hi]
    simp [execOp, hop, e1, Instr.storeAt, Instr.sureAddr, storeVar, h6, hsz, g1]
  | fieldAddr t x j =>
    rw [hop] at hc
    simp only [compOp] at hc
    split at hc
    case h_2 => cases hc
    rename_i fs hu
    split at hc
    case h_2 => cases hc
    rename_i fd hfd
    split at hc
    case h_2 => cases hc
    rename_i ti hi
    split at hc
    case isFalse => cases hc
    rename_i hpos
    simp only [Option.some.injEq] at hc; subst hc
    simp only [OX] at hA
    split at hA
    case h_2 => exact hA.elim
    rename_i m off hx0
    have e1 := st.ev x; rw [hx x (by simp [hop, Op.operands]), hx0] at e1; simp only [R, RP] at e1
    have hrun : (Instr.fieldAt t (.pointer (some ⟨m, off, none⟩)) j).run P w = .ok (.pointer (some ((⟨m, off, none⟩ : Addr).add fd.offset))) w := by
      have h5 : (sizeOf fd.type).run P w = .ok ti.size w := by simp [sizeOf, typeInfo, hi]
      simp [Instr.fieldAt, run_underlying hu, hfd, Instr.sureAddr, fieldPlace, h5, Nat.ne_of_gt hpos]
    refine val (u := .pointer (some ⟨m, off + fd.offset, none⟩)) (w' := w) ?_ hA same.1 same.2.1 same.2.2 (by simp [R, RP]) (by simp [V.bd])
    simp only [execOp, hop, e1, Sem.run_bind, hrun, Result.andThen_ok, Sem.run_pure, add_plain']
  | nilCheck x =>
    rw [hop] at hc
    simp only [compOp, Option.some.injEq] at hc; subst hc
    simp only [OX] at hA
    split at hA
    case h_2 => exact hA.elim
    rename_i ad hx0
    have e1 := st.ev x; rw [hx x (by simp [hop, Op.operands]), hx0] at e1; simp only [R, RP] at e1
    refine val (u := .pointer (some ad)) (w' := w) ?_ hA same.1 same.2.1 same.2.2 (by simp [R, RP]) (by simp [V.bd])
    simp [execOp, hop, e1]
  | call c =>
    rw [hop] at hc
    obtain ⟨callee, cargs, tys⟩ := c
    cases o with
    | call fx args =>
      have hcal : callee = .value fx ∧ cargs.toList = args := by
        cases callee with
        | value g => simp only [compOp, Option.some.injEq, AO.call.injEq] at hc; exact ⟨by rw [hc.1], hc.2⟩
        | invoke r m => simp [compOp] at hc
        | builtin b =>
          simp only [compOp] at hc
          repeat' split at hc
          all_goals first | (cases hc; done) | (simp at hc; done) | (simp_all; done)
      obtain ⟨rfl, rfl⟩ := hcal
      obtain ⟨g, ps, qs, Post, hf, hps, hcall, hK⟩ := hA
      have hfx := pure_R _ _ _ hf (hx fx (by simp [hop, Op.operands, Call.operands]) ▸ st.ev fx)
      simp only [RP] at hfx
      obtain ⟨caps, hg, hcaps⟩ := hfx
      obtain ⟨hargs, hbargs⟩ := RL_map_ev (f := f) st cargs.toList fun x hx' => hx x (by simp [hop, Op.operands, Call.operands]; right; simpa using hx')
      have hus := pureL_R _ ps _ hps hargs
      obtain ⟨⟨fn, hfn, hbody, hname⟩, hcalls⟩ := hcall
      have hc2 := hcalls G.I w _ st.rel.imm (fun k x e => ⟨r.at_ k x e, r.sepI k x e⟩) (RPL_append hus hcaps)
      unfold Oper.wp
      have hrun : (execOp a.eval co).run P w = .ok (.enter g (cargs.map a.eval ++ caps)) w := by
        obtain ⟨body, hb⟩ := Option.isSome_iff_exists.1 hbody
        have hname' : ¬ fn.name = "runtime.NumGoroutine" := by simpa using hname
        simp [execOp, hop, resolve, Deferred.ofValue, hg, invoke, callFunc, hfn, hb, hname']
      rw [hrun]
      simp only [Oper.upon]
      have : (List.map a.eval cargs.toList ++ caps.toList).toArray = cargs.map a.eval ++ caps := by rw [← Array.toList_map]; simp
      rw [this] at hc2
      refine hc2.mono fun e w' ⟨u', J, rr, O', he, hP, hle, hnew, hJ, hr, hO, hobj, g1, g2, g3, g4, g5⟩ => ?_
      subst he
      have hOn : ∀ b blk, h b = some blk → O (G.φ b) = none := fun b blk e => by
        cases ho : O (G.φ b) with
        | none => rfl
        | some x => exact absurd rfl (r.sepB _ x ho b blk e)
      have hG : Gh.le S G { G with I := J } := ⟨fun _ _ => rfl, fun _ _ => rfl, fun _ _ => rfl, hle⟩
      refine hk u' w' { G with I := J } (.pv rr) O' (hK rr O' hP) hG ⟨hJ, fun b blk e => ?_, st.rel.inj, fun b blk e hro a v ea => ?_, st.rel.live, st.rel.bd⟩
        ⟨fun k x e => (hO k x e).1, fun k x e b blk hb hkk => ?_, fun k x e => (hO k x e).2⟩
        ⟨g1, g2, g3, g4, hle, fun k hk _ ho => g5 k hk ho, fun b blk e hro _ => ⟨b, blk, e, hro, rfl⟩, fun b blk e _ => ⟨b, blk, e, rfl⟩, fun a v e hlt => .inl (hnew a v e hlt), fun k x e hlt => .inl (hobj k x e hlt)⟩
        (by simpa only [R] using hr) (by simp [V.bd])
      · obtain ⟨arr, e1, e2⟩ := st.rel.blk b blk e
        exact ⟨arr, by rw [g5 _ (st.rel.lt e) (hOn b blk e)]; exact e1, e2.mono hG (st.rel.live b blk e) (st.rel.bd b blk e)⟩
      · by_cases hlt : a.block < w.heap.size
        · exact st.rel.sep b blk e hro a v (hnew a v ea hlt)
        · have := st.rel.lt e; show a.block ≠ G.φ b; omega
      · have hlt := st.rel.lt hb
        have hn := hobj k x e (by rw [← hkk]; exact hlt)
        rw [← hkk] at hn
        exact hn (hOn b blk hb)
    | _ =>
      cases callee with
      | value g => simp only [compOp, Option.some.injEq] at hc; cases hc
      | invoke r m => simp [compOp] at hc
      | builtin b =>
        simp only [compOp] at hc
        repeat' split at hc
        all_goals first | (cases hc; done) | (simp only [Option.some.injEq] at hc; cases hc; exact (show False from hA).elim) | (simp_all; done)
  | _ =>
    rw [hop] at hc
    (try simp only [compOp] at hc)
    repeat' split at hc
    all_goals first | (cases hc; done) | (simp only [Option.some.injEq] at hc; subst hc; exact (show False from hA).elim) | (simp at hc; done) | (simp_all; done)
end Go.Ab
