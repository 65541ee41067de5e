/- Each operation does in the machine what it does to abstract values. -/
import Derived.Test.YtgphapkpoamcgaaBb4
set_option linter.unusedVariables false
set_option linter.unusedSimpArgs false
namespace Go.Ab
open Go.RowKit

theorem RPL_lits {I : Imm} : ∀ (us : List Value), RPL I (us.map .lit) us
  | [] => by simp [RPL]
  | u :: us => by simp only [List.map_cons, RPL]; exact ⟨u, us, rfl, by simp [RP], RPL_lits us⟩
theorem RL_lits {G : Gh} : ∀ (us : List Value), RL G (us.map lv) us
  | [] => by simp [RL]
  | u :: us => by simp only [List.map_cons, RL]; exact ⟨u, us, rfl, by simp [R, lv, RP], RL_lits us⟩
theorem RL_pv {G : Gh} : ∀ {cs : List PV} {us : List Value}, RL G (cs.map .pv) us ↔ RPL G.I cs us
  | [], us => by simp [RL, RPL]
  | c :: cs, us => by simp only [List.map_cons, RL, RPL, R, RL_pv (cs := cs)]
theorem bdL_lits {S : Nat → Prop} (us : List Value) : V.bdL S (us.map lv) := bdL_iff.2 fun c hc => by
  obtain ⟨u, _, rfl⟩ := List.mem_map.1 hc; simp [lv, V.bd]
theorem bdL_pv {S : Nat → Prop} (cs : List PV) : V.bdL S (cs.map .pv) := bdL_iff.2 fun c hc => by
  obtain ⟨u, _, rfl⟩ := List.mem_map.1 hc; simp [V.bd]

theorem cst_R (G : Gh) (v : Value) : R G (cst v) v := by
  cases v <;> simp only [cst, R, RP]
  case agg us =>
    split
    · rename_i h
      simp only [R, RP]
      exact ⟨us, rfl, fun u hu => List.all_eq_true.1 h u hu, RPL_lits _⟩
    · simp [R]
theorem cst_bd (S : Nat → Prop) (v : Value) : (cst v).bd S := by
  cases v <;> simp only [cst, V.bd]
  case agg us => split <;> simp [V.bd]
theorem St.ev {N S G f h a w} (st : St N S G f h a w) (x : Operand) : R G (ev f x) (a.eval x) := by
  cases x with
  | tmp t => exact st.fr t
  | const v => exact cst_R G v
  | func g => simp only [Ab.ev, R, RP, Act.eval]; exact ⟨#[], rfl, by simp [RPL]⟩
  | global g => simp [Ab.ev, R]
theorem St.evbd {N S G f h a w} (st : St N S G f h a w) (x : Operand) : (Ab.ev f x).bd S := by
  cases x with
  | tmp t => exact st.bd t
  | const v => exact cst_bd S v
  | func g => simp [Ab.ev, V.bd]
  | global g => simp [Ab.ev, V.bd]

theorem cells_R {G : Gh} {v : V} {cs : List V} {u : Value} (hv : v.cells? = some cs) (r : R G v u) : RL G cs u.cells.toList ∧ ∀ u' ∈ u.cells.toList, u'.oneCell' = true := by
  have one : ∀ (c : V) (u : Value), R G c u → u.oneCell' = true → RL G [c] u.cells.toList ∧ ∀ u' ∈ u.cells.toList, u'.oneCell' = true := fun c u r h => by
    have : u.cells = #[u] := by cases u <;> first | rfl | simp [Value.oneCell'] at h
    rw [this]
    exact ⟨by simp only [RL]; exact ⟨u, [], rfl, r, rfl⟩, by simpa using h⟩
  cases v with
  | junk => simp [V.cells?] at hv
  | tup vs => simp [V.cells?] at hv
  | agg ds =>
    simp only [V.cells?, Option.some.injEq] at hv; subst hv
    simp only [R] at r
    obtain ⟨us, rfl, h1, r⟩ := r
    exact ⟨r, h1⟩
  | ptr b i o =>
    simp only [V.cells?, Option.some.injEq] at hv; subst hv
    refine one _ u r ?_
    simp only [R] at r; subst r; rfl
  | row b n fl =>
    simp only [V.cells?, Option.some.injEq] at hv; subst hv
    refine one _ u r ?_
    simp only [R] at r; obtain ⟨cap, rfl, _⟩ := r; rfl
  | fn g caps =>
    simp only [V.cells?, Option.some.injEq] at hv; subst hv
    refine one _ u r ?_
    simp only [R] at r; obtain ⟨us, rfl, _⟩ := r; rfl
  | pv p =>
    cases p with
    | agg ps =>
      simp only [V.cells?, Option.some.injEq] at hv; subst hv
      simp only [R, RP] at r
      obtain ⟨us, rfl, h1, r⟩ := r
      exact ⟨RL_pv.2 r, h1⟩
    | lit x =>
      simp only [V.cells?] at hv
      split at hv
      · rename_i hx
        simp only [Option.some.injEq] at hv; subst hv
        refine one _ u r ?_
        simp only [R, RP] at r; subst r; exact hx
      · cases hv
    | tup ps => simp [V.cells?] at hv
    | rptr ps =>
      simp only [V.cells?, Option.some.injEq] at hv; subst hv
      refine one _ u r ?_
      simp only [R, RP] at r; obtain ⟨ad, rfl, _⟩ := r; rfl
    | list sz ps =>
      simp only [V.cells?, Option.some.injEq] at hv; subst hv
      refine one _ u r ?_
      simp only [R, RP] at r; obtain ⟨a, n, cap, rfl, _⟩ := r; rfl
    | fn g ps =>
      simp only [V.cells?, Option.some.injEq] at hv; subst hv
      refine one _ u r ?_
      simp only [R, RP] at r; obtain ⟨us, rfl, _⟩ := r; rfl
theorem cells_bd {S : Nat → Prop} {v : V} {cs : List V} (hv : v.cells? = some cs) (b : v.bd S) : V.bdL S cs := by
  cases v with
  | junk => simp [V.cells?] at hv
  | tup vs => simp [V.cells?] at hv
  | agg ds => simp only [V.cells?, Option.some.injEq] at hv; subst hv; simpa [V.bd] using b
  | ptr c i o => simp only [V.cells?, Option.some.injEq] at hv; subst hv; simpa [V.bd, V.bdL] using b
  | row c n fl => simp only [V.cells?, Option.some.injEq] at hv; subst hv; simpa [V.bd, V.bdL] using b
  | fn g caps => simp only [V.cells?, Option.some.injEq] at hv; subst hv; simpa [V.bd, V.bdL] using b
  | pv p =>
    cases p with
    | agg ps => simp only [V.cells?, Option.some.injEq] at hv; subst hv; exact bdL_pv ps
    | lit x =>
      simp only [V.cells?] at hv
      split at hv
      · simp only [Option.some.injEq] at hv; subst hv; simp [V.bd, V.bdL]
      · cases hv
    | tup ps => simp [V.cells?] at hv
    | rptr ps => simp only [V.cells?, Option.some.injEq] at hv; subst hv; simp [V.bd, V.bdL]
    | list sz ps => simp only [V.cells?, Option.some.injEq] at hv; subst hv; simp [V.bd, V.bdL]
    | fn g ps => simp only [V.cells?, Option.some.injEq] at hv; subst hv; simp [V.bd, V.bdL]

theorem Rel.monoS {S T : Nat → Prop} {G h w} (hST : ∀ b, S b → T b) (r : Rel S G h w) : Rel T G h w :=
  ⟨r.imm, r.blk, r.inj, r.sep, fun b k e => hST b (r.live b k e), fun b k e cs hcs => V.bdL_mono hST cs (r.bd b k e cs hcs)⟩

theorem outc_pure {N S G f h a w} (st : St N S G f h a w) {res : Result Next} {v : V} {u : Value} (hr : res = .ok (.value u) w) (hR : R G v u) (hb : v.bd S) : Outc S G h w res v [] :=
  ⟨u, w, G, .inl hr, Gh.le.refl S G, st.rel.monoS fun b hb => .inl hb, Tr.refl _ _ _, hR, V.bd_mono (fun b hb => .inl hb) _ hb⟩

/-- an operation is sound -/
def Snd (P : Program) (op : Op) (nb : Nat) (f : FV) (h : HF) (K : Kont) : Prop :=
  ∃ v rd δ, K v rd δ ∧ (∀ b k, (b, k) ∈ δ → b = nb ∨ b ∈ rd) ∧ ∀ N S G f2 h2 a w, St N S G f2 h2 a w → (∀ x ∈ op.operands.toList, ev f2 x = ev f x) → (∀ b ∈ rd, h2 b = h b) → ¬ S nb →
    ∀ oper : Oper, oper.op = op → Outc S G h2 w ((execOp a.eval oper).run P w) v δ

theorem snd_pure {P : Program} {op : Op} {nb : Nat} {f : FV} {h : HF} {K : Kont} (v : V) (hK : K v [] [])
    (hs : ∀ N S G f2 h2 a w, St N S G f2 h2 a w → (∀ x ∈ op.operands.toList, ev f2 x = ev f x) → ∀ oper : Oper, oper.op = op → ∃ u, (execOp a.eval oper).run P w = .ok (.value u) w ∧ R G v u ∧ v.bd S) : Snd P op nb f h K :=
  ⟨v, [], [], hK, by simp, fun N S G f2 h2 a w st hx _ _ oper ho => by
    obtain ⟨u, h1, h2, h3⟩ := hs N S G f2 h2 a w st hx oper ho
    exact outc_pure st h1 h2 h3⟩

section
variable {P : Program} {nb : Nat} {f : FV} {h : HF} {K : Kont}

theorem snd_move {x : Operand} (hA : K (ev f x) [] []) : Snd P (.move x) nb f h K :=
  snd_pure _ hA fun N S G f2 h2 a w st hx oper ho => ⟨a.eval x, by simp [execOp, ho], hx x (by simp [Op.operands]) ▸ st.ev x, hx x (by simp [Op.operands]) ▸ st.evbd x⟩
theorem snd_assign {x : Operand} (hA : K (ev f x) [] []) : Snd P (.assign x) nb f h K :=
  snd_pure _ hA fun N S G f2 h2 a w st hx oper ho => ⟨a.eval x, by simp [execOp, ho], hx x (by simp [Op.operands]) ▸ st.ev x, hx x (by simp [Op.operands]) ▸ st.evbd x⟩
theorem snd_pick {c x y : Operand} (hA : AS (.pick c x y) nb f h K) : Snd P (.pick c x y) nb f h K := by
  simp only [AS] at hA
  split at hA
  · rename_i t hc
    refine snd_pure _ hA fun N S G f2 h2 a w st hx oper ho => ?_
    have h1 := st.ev c; rw [hx c (by simp [Op.operands]), hc] at h1; simp only [R, RP] at h1
    refine ⟨if t then a.eval x else a.eval y, by simp [execOp, ho, h1, asBool], ?_, ?_⟩
    · cases t
      · exact hx y (by simp [Op.operands]) ▸ st.ev y
      · exact hx x (by simp [Op.operands]) ▸ st.ev x
    · cases t
      · exact hx y (by simp [Op.operands]) ▸ st.evbd y
      · exact hx x (by simp [Op.operands]) ▸ st.evbd x
  · exact hA.elim

theorem zeroOf_spec {t : TypeId} {n : Nat} {z : List Value} (hz : zeroOf P t = some (n, z)) :
    ∃ i v, P.info? t = some i ∧ i.zero = some v ∧ 0 < n ∧ i.size = n ∧ v.cells.size = n ∧ v.cells.toList = z ∧ z.length = n ∧ ∀ u ∈ z, u.oneCell' = true := by
  unfold zeroOf at hz
  split at hz
  · rename_i i hi
    split at hz
    · rename_i v hv
      split at hz
      · rename_i hcond
        simp only [Option.some.injEq, Prod.mk.injEq] at hz
        obtain ⟨rfl, rfl⟩ := hz
        obtain ⟨h1, h2, h3⟩ := hcond
        exact ⟨i, v, hi, hv, h1, rfl, h2, rfl, by simpa using h2, fun u hu => List.all_eq_true.1 h3 u hu⟩
      · cases hz
    · cases hz
  · cases hz

/-- a new block by an operation -/
theorem outc_alloc {N S G f2 h2 a w} (st : St N S G f2 h2 a w) (hn : ¬ S nb) (ty sz : Nat) (arr : Array Value) (xs : List (List V)) (res : Result Next) (v : V) (u : Value)
    (hr : res = .ok (.value u) (w.alloc (.cells arr ty)))
    (hlen : ∀ (i : Nat) cs, xs[i]? = some cs → cs.length = sz) (hfit : xs.length * sz ≤ arr.size)
    (hc : ∀ (i j : Nat) cs c, xs[i]? = some cs → cs[j]? = some c → ∃ u, arr[i * sz + j]? = some u ∧ u.oneCell' = true ∧ R G c u) (hbd : ∀ cs ∈ xs, V.bdL S cs)
    (hv : R (G.new nb w.heap.size arr.size sz) v u) (hvb : v.bd (SS S nb)) : Outc S G h2 w res v [(nb, some ⟨false, ty, sz, xs, none⟩)] := by
  obtain ⟨h1, h3⟩ := st.rel.alloc hn ty sz arr xs hlen hfit hc hbd
  have hS : ∀ b, SS S nb b → SD S [(nb, some ⟨false, ty, sz, xs, none⟩)] b := fun b hb => by
    rcases hb with hb | rfl
    · exact .inl hb
    · exact .inr ⟨_, List.mem_singleton.2 rfl⟩
  exact ⟨u, _, _, .inl hr, Gh.new_le hn, h1.monoS hS, h3, hv, V.bd_mono hS v hvb⟩

theorem snd_alloc {e : TypeId} {o : AO} (hc : compOp P (.alloc e) = some o) (hA : AS o nb f h K) : Snd P (.alloc e) nb f h K := by
  simp only [compOp] at hc
  split at hc
  · rename_i n z hz
    simp only [Option.some.injEq] at hc; subst hc
    simp only [AS] at hA
    obtain ⟨i, v, hi, hv, hpos, hsz, hvs, rfl, hzl, hone⟩ := zeroOf_spec hz
    refine ⟨_, [], _, hA, by simp, fun N S G f2 h2 a w st hx _ hn oper ho => ?_⟩
    refine outc_alloc st hn e n v.cells _ _ _ (.pointer (some ⟨w.heap.size, 0, none⟩)) ?_ ?_ ?_ ?_ ?_ ?_ ?_
    · simp [execOp, ho, Instr.alloc, zeroValue, typeInfo, hi, hv, newVar, newRow]
    · intro i cs h1
      cases i <;> simp at h1
      subst h1; simp [hvs]
    · simp [hvs]
    · intro i j cs c h1 h2
      cases i <;> simp at h1
      subst h1
      simp only [List.getElem?_map, Option.map_eq_some_iff] at h2
      obtain ⟨u, h3, rfl⟩ := h2
      refine ⟨u, by simpa using h3, hone u (List.mem_of_getElem? h3), by simp [R, lv, RP]⟩
    · intro cs hcs; simp at hcs; subst hcs; exact bdL_lits _
    · simp [R, Gh.new]
    · simp [V.bd, SS]
  · cases hc
theorem snd_box {e : TypeId} {x : Operand} {o : AO} (hc : compOp P (.box e x) = some o) (hA : AS o nb f h K) : Snd P (.box e x) nb f h K := by
  simp only [compOp] at hc
  split at hc
  · rename_i n z hz
    simp only [Option.some.injEq] at hc; subst hc
    simp only [AS] at hA
    split at hA
    · rename_i cs hcs
      obtain ⟨hl, hA⟩ := hA
      refine ⟨_, [], _, hA, by simp, fun N S G f2 h2 a w st hx _ hn oper ho => ?_⟩
      obtain ⟨h3, h4⟩ := cells_R hcs (hx x (by simp [Op.operands]) ▸ st.ev x)
      refine outc_alloc st hn e n (a.eval x).cells _ _ _ (.pointer (some ⟨w.heap.size, 0, none⟩)) ?_ ?_ ?_ ?_ ?_ ?_ ?_
      · simp [execOp, ho, Instr.box, newVar, newRow]
      · intro i cs h1
        cases i <;> simp at h1
        subst h1; exact hl
      · have := RL_length h3; simp at this; simp [this, hl]
      · intro i j cs c h1 h2
        cases i <;> simp at h1
        subst h1
        obtain ⟨u, h5, h6⟩ := RL_get h3 j c h2
        exact ⟨u, by simpa using h5, h4 u (List.mem_of_getElem? h5), h6⟩
      · intro cs hcs'; simp at hcs'; subst hcs'; exact cells_bd hcs (hx x (by simp [Op.operands]) ▸ st.evbd x)
      · simp [R, Gh.new]
      · simp [V.bd, SS]
    · exact hA.elim
  · cases hc
end
end Go.Ab
