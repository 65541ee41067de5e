/- X4: joined from XE4. -/
import Derived.Test.YtckjkdhmljfeeaaGreatDoorX3
/- One operation, carried out on abstract values: the rules (2). -/
set_option linter.unusedVariables false
set_option linter.unusedSimpArgs false
namespace Go.Ev
open Go Go.RowKit
def repX (z : List X) : Nat → List X
  | 0 => []
  | n + 1 => z ++ repX z n
theorem repX_len (z : List X) : ∀ n, (repX z n).length = n * z.length
  | 0 => by simp [repX]
  | n + 1 => by simp [repX, repX_len z n, Nat.add_mul]; omega
theorem repX_get (z : List X) (hz : 0 < z.length) : ∀ (n k : Nat), k < n * z.length → (repX z n)[k]? = z[k % z.length]?
  | 0, k, h => by simp at h
  | n + 1, k, h => by
    rw [Nat.add_mul, Nat.one_mul] at h
    simp only [repX]
    by_cases hk : k < z.length
    · rw [List.getElem?_append_left hk, Nat.mod_eq_of_lt hk]
    · rw [List.getElem?_append_right (by omega), repX_get z hz n _ (by omega), ← Nat.mod_eq_sub_mod (show z.length ≤ k by omega)]
theorem made_ok {M : Nm} {z : Value} {n sz : Nat} (hz : z.cells.size = sz) (hpos : 0 < sz) : RXL M (repX (z.cells.toList.map .v) n) (madeCells z.cells (n * sz)).toList := by
  have hl : (z.cells.toList.map X.v).length = sz := by simpa using hz
  refine RXL_of (by simp [size_madeCells, repX_len, hz]) fun i x u h1 h2 => ?_
  have hi : i < n * sz := by have := (List.getElem?_eq_some_iff.1 h2).1; simpa [size_madeCells] using this
  rw [repX_get _ (by omega) n i (by rw [hl]; exact hi), hl, List.getElem?_map, Option.map_eq_some_iff] at h1
  obtain ⟨y, h3, rfl⟩ := h1
  rw [Array.getElem?_toList, Ab.made_get (by omega) hi, hz] at h2
  rw [Array.getElem?_toList, h2] at h3
  cases h3
  simp [RX]
theorem made_one {z : Value} {n sz : Nat} (hz : z.cells.size = sz) (hpos : 0 < sz) (hone : ∀ u ∈ z.cells.toList, u.oneCell' = true) : ∀ u ∈ (madeCells z.cells (n * sz)).toList, u.oneCell' = true := fun u hu => by
  obtain ⟨i, hi⟩ := List.getElem?_of_mem hu
  have hlt : i < n * sz := by have := (List.getElem?_eq_some_iff.1 hi).1; simpa [size_madeCells] using this
  rw [Array.getElem?_toList, Ab.made_get (by omega) hlt] at hi
  exact hone u (Array.mem_toList_iff.2 (Array.mem_of_getElem? hi))
theorem repX_bd {S : Nat → Prop} {z : List X} (h : bdL S z) : ∀ n, bdL S (repX z n)
  | 0 => by simp [repX, bdL]
  | n + 1 => bdL_iff.2 fun c hc => by
    simp only [repX] at hc
    rcases List.mem_append.1 hc with hc | hc
    · exact bdL_iff.1 h c hc
    · exact bdL_iff.1 (repX_bd h n) c hc
section
variable {P : Program} {ng nb : Nat} {f : Nat → X} {h : HF} {o : Oper} {out : Out}
def rBslice (P : Program) (ng : Nat) (f : Nat → X) (nb : Nat) (t : TypeId) (len : Nat) (parts : Array (Nat × Operand)) : Option Out := match P.underlying t with
  | some (.slice e) => match Ab.zeroOf P e with
    | some (n, z) => match Nat.ble (len * n) (2 ^ 24) with
      | true => match fillX (fun i => some (i * n, n)) (repX (z.map .v) len) (evParts ng f parts.toList) with
        | some cs => some ⟨.sl nb 0 len n (some len), .new nb ⟨false, e, cs⟩, []⟩
        | none => none
      | false => none
    | none => none
  | _ => none
theorem rBslice_ok {t : TypeId} {len : Nat} {parts : Array (Nat × Operand)} (ho : o.op = .buildSlice t len parts) (hr : rBslice P ng f nb t len parts = some out) : Snd P ng o f h nb out := by
  unfold rBslice at hr
  split at hr
  case h_2 => cases hr
  rename_i e hu
  split at hr
  case h_2 => cases hr
  rename_i n z hz0
  split at hr
  case h_2 => cases hr
  rename_i hlim
  split at hr
  case h_2 => cases hr
  rename_i cs hcs
  simp only [Option.some.injEq] at hr; subst hr
  obtain ⟨ti, zv, hi, hz, hpos, hsz, hvs, rfl, hzl, hone⟩ := Ab.zeroOf_spec hz0
  intro n0 N S M f2 h2 a w st hx _ hn
  obtain ⟨h1, h3⟩ := RParts_ev (f := f) st parts.toList fun x hx' => hx x (by simpa [ho, Op.operands] using hx')
  obtain ⟨arr, e1, e2, e3, e4, e5⟩ := fillX_ok _ _ _ (madeCells zv.cells (len * n)) cs h1 h3 (made_ok hvs hpos) (repX_bd (bdL_vs _) _) (made_one hvs hpos hone) hcs
  have hsz2 : arr.size = len * n := by rw [e5, size_madeCells]
  refine outc_new st (hn rfl) e arr cs _ _ (.slice (some ⟨w.heap.size, 0, none⟩) len len) rfl (Below.refl _ _) ?_ (by have := RXL_len e2; simp at this; omega) (fun i x hi' => ?_) e3 ?_ (by simp [X.bd, SS])
  · have hr := Ab.run_bslice (P := P) (w := w) hu hi hz hsz (parts.map fun p => (p.1, a.eval p.2)) arr (Nat.le_of_ble_eq_true hlim) (by simpa using e1)
    simp only [execOp, ho, Sem.run_bind]
    rw [show (parts.map fun (i, x) => (i, a.eval x)) = parts.map fun p => (p.1, a.eval p.2) from rfl, hr]
    rfl
  · obtain ⟨u, h5, h6⟩ := RXL_get e2 i x hi'
    exact ⟨u, by simpa using h5, e4 u (List.mem_of_getElem? h5), h6⟩
  · simp only [RX]
    exact ⟨len, by simp [Nm.new], Nat.le_refl _, by simp [Nm.new, hsz2], fun k hk => by cases hk; rfl⟩
def rLoad (P : Program) (ng : Nat) (f : Nat → X) (h : HF) (t : TypeId) (x : Operand) : Option Out := match evX ng f x with
  | .ptr b off => match h b with
    | some k => match Ab.isAggB P t with
      | some g => match P.info? t with
        | some i => match (g || Nat.beq i.size 1) with
          | true => match Nat.ble (off + i.size) k.xs.length with
            | true => some ⟨unc g ((k.xs.drop off).take i.size), .nop, [(b, off, i.size)]⟩
            | false => none
          | false => none
        | none => none
      | none => none
    | none => none
  | _ => none
theorem rLoad_ok {t : TypeId} {x : Operand} (ho : o.op = .load t x) (hr : rLoad P ng f h t x = some out) : Snd P ng o f h nb out := by
  unfold rLoad at hr
  split at hr
  case h_2 => cases hr
  rename_i b off hx0
  split at hr
  case h_2 => cases hr
  rename_i k hk
  split at hr
  case h_2 => cases hr
  rename_i g hg
  split at hr
  case h_2 => cases hr
  rename_i i hi
  split at hr
  case h_2 => cases hr
  rename_i hcond
  split at hr
  case h_2 => cases hr
  rename_i hle
  simp only [Option.some.injEq] at hr; subst hr
  have hle := Nat.le_of_ble_eq_true hle
  have hcond : g = true ∨ i.size = 1 := by
    rw [Bool.or_eq_true] at hcond
    exact hcond.imp id Nat.eq_of_beq_eq_true
  intro n0 N S M f2 h2 a w st hx ha hn
  have h1 := st.ev x; rw [hx x (by simp [ho, Op.operands]), hx0] at h1; simp only [RX] at h1
  obtain ⟨k2, hk2, _, _, hlen, hcells⟩ := agr_cells ha (b := b) (off := off) (n := i.size) (by simp) hk
  obtain ⟨us, e1, e2, e3, e4⟩ := brel_cells (st.rel.blk b k2 hk2) (off := off) (n := i.size) (by omega)
  rw [hcells] at e4
  refine outc_pure st (u := Ab.mkc g us) ?_ (unc_ok e4 e3 ?_) ?_
  · simp [execOp, ho, h1, Ab.run_loadAt' hg hi hcond _ us e1 e2]
  · rcases hcond with hcond | hcond
    · exact .inl hcond
    · right; simp; omega
  · refine unc_bd (bdL_sub (st.rel.bd b k2 hk2) fun c hc => ?_)
    rw [← hcells] at hc
    exact List.mem_of_mem_drop (List.mem_of_mem_take hc)
def rStore (P : Program) (ng : Nat) (f : Nat → X) (h : HF) (t : TypeId) (x y : Operand) : Option Out := match evX ng f x with
  | .ptr b off => match h b with
    | some k => match k.ro with
      | false => match cells? (evX ng f y) with
        | some vs => match P.info? t with
          | some i => match Nat.beq vs.length i.size with
            | true => match Nat.ble (off + vs.length) k.xs.length with
              | true => some ⟨.v undef, .put b off vs, [(b, 0, 0)]⟩
              | false => none
            | false => none
          | none => none
        | none => none
      | true => none
    | none => none
  | _ => none
theorem setRow_heap {w : World} {g : Nat} {cur : Array Value} {t : TypeId} {fz : Nat × Nat} {arr : Array Value} (hg : w.heap[g]? = some (.cells cur t fz)) : (w.setRow g arr).heap[g]? = some (.cells arr t fz) ∧ (∀ j, j ≠ g → (w.setRow g arr).heap[j]? = w.heap[j]?) ∧ (∀ n0, n0 ≤ g → Below n0 w (w.setRow g arr)) := by
  have hlt := (Array.getElem?_eq_some_iff.1 hg).1
  refine ⟨?_, fun j hj => ?_, fun n0 hn => ⟨rfl, rfl, rfl, by simp [World.setRow], fun j hj => ?_⟩⟩
  · simp only [World.setRow, Array.getElem?_modify, if_true, hg, Option.map_some]
  · simp only [World.setRow, Array.getElem?_modify, if_neg (Ne.symm hj)]
  · simp only [World.setRow, Array.getElem?_modify, if_neg (show ¬ g = j by omega)]
theorem rStore_ok {t : TypeId} {x y : Operand} (ho : o.op = .store t x y) (hr : rStore P ng f h t x y = some out) : Snd P ng o f h nb out := by
  unfold rStore at hr
  split at hr
  case h_2 => cases hr
  rename_i b off hx0
  split at hr
  case h_2 => cases hr
  rename_i k hk
  split at hr
  case h_2 => cases hr
  rename_i hro
  split at hr
  case h_2 => cases hr
  rename_i vs hvs
  split at hr
  case h_2 => cases hr
  rename_i i hi
  split at hr
  case h_2 => cases hr
  rename_i hnl
  split at hr
  case h_2 => cases hr
  rename_i hle
  simp only [Option.some.injEq] at hr; subst hr
  have hle := Nat.le_of_ble_eq_true hle
  have hnl := Nat.eq_of_beq_eq_true hnl
  intro n0 N S M f2 h2 a w st hx ha hn
  have h1 := st.ev x; rw [hx x (by simp [ho, Op.operands]), hx0] at h1; simp only [RX] at h1
  have my := hx y (by simp [ho, Op.operands])
  obtain ⟨h3, h4⟩ := cells_ok hvs (my ▸ st.ev y)
  have hb3 := cells_bd hvs (my ▸ st.evbd y)
  obtain ⟨k2, hk2, hro2, hty2, hlen, _⟩ := agr_cells ha (b := b) (off := 0) (n := 0) (by simp) hk
  obtain ⟨arr, ty, fz, e, e0, e2, e3, e4⟩ := st.rel.blk b k2 hk2
  obtain ⟨rfl, rfl⟩ := e0 (by rw [hro2]; exact hro)
  have hul : (a.eval y).cells.toList.length = vs.length := RXL_len h3
  have hst := run_storeCells_at P (M.φ b) off k2.ty (a.eval y).cells.toList 0 arr w e (by omega) h4
  simp only [Nat.add_zero] at hst
  generalize harr : (arr.toList.take off ++ (a.eval y).cells.toList ++ arr.toList.drop (off + (a.eval y).cells.toList.length)).toArray = arr' at hst
  obtain ⟨g1, g2, g3⟩ := setRow_heap (arr := arr') e
  have hsz' : arr'.size = arr.size := by rw [← harr]; simp at hul ⊢; omega
  have hget : ∀ j, arr'[j]? = if off ≤ j ∧ j < off + vs.length then (a.eval y).cells.toList[j - off]? else arr[j]? := fun j => by
    rw [← harr]
    simp only [List.getElem?_toArray]
    have hl1 : (arr.toList.take off).length = off := by simp; omega
    by_cases hj : j < off
    · rw [List.append_assoc, List.getElem?_append_left (by omega), List.getElem?_take, if_pos hj, if_neg (by omega), Array.getElem?_toList]
    · by_cases hj2 : j < off + vs.length
      · rw [List.append_assoc, List.getElem?_append_right (by omega), hl1, List.getElem?_append_left (by omega), if_pos ⟨by omega, hj2⟩]
      · rw [List.getElem?_append_right (by rw [List.length_append, hl1]; omega), List.length_append, hl1, if_neg (by omega), List.getElem?_drop, Array.getElem?_toList]
        congr 1; omega
  have hk' : BRel M b { k2 with xs := spl k2.xs off vs } (w.setRow (M.φ b) arr') := by
    refine ⟨arr', k2.ty, (0, 0), g1, fun _ => ⟨rfl, rfl⟩, by rw [hsz', e2], by simp only [spl_len (show off + vs.length ≤ k2.xs.length by omega)]; omega, fun j c hj => ?_⟩
    simp only at hj
    rw [spl_get (by omega)] at hj
    rw [hget j]
    by_cases hc : off ≤ j ∧ j < off + vs.length
    · rw [if_pos hc] at hj ⊢
      obtain ⟨u, q1, q2⟩ := RXL_get h3 _ c hj
      exact ⟨u, q1, h4 u (List.mem_of_getElem? q1), q2⟩
    · rw [if_neg hc] at hj ⊢
      exact e4 j c hj
  refine ⟨undef, w.setRow (M.φ b) arr', M, .inr ⟨?_, rfl⟩, Nm.le.refl _ _, ?_, g3 n0 (st.rel.lo b k2 hk2 (by rw [hro2]; exact hro)), by simp [RX], by simp [X.bd]⟩
  · have hsz : (a.eval y).cells.size = i.size := by simp at hul; omega
    have h5 : (sizeOf t).run P w = .ok i.size w := by simp [sizeOf, typeInfo, hi]
    simp [execOp, ho, h1, Instr.storeAt, Instr.sureAddr, storeVar, h5, hsz, hst]
  · have := st.rel.put hk2 { k2 with xs := spl k2.xs off vs } rfl g2 hk' (spl_bd (st.rel.bd b k2 hk2) hb3)
    simp only [Ef.app, hk2]
    exact this
def rNilc (ng : Nat) (f : Nat → X) (x : Operand) : Option Out := match evX ng f x with
  | .ptr b off => some ⟨.ptr b off, .nop, []⟩
  | .fn g fs caps => some ⟨.fn g fs caps, .nop, []⟩
  | .ifc t y => some ⟨.ifc t y, .nop, []⟩
  | _ => none
theorem rNilc_ok {x : Operand} (ho : o.op = .nilCheck x) (hr : rNilc ng f x = some out) : Snd P ng o f h nb out := by
  unfold rNilc at hr
  intro n0 N S M f2 h2 a w st hx ha hn
  have h1 := st.ev x; rw [hx x (by simp [ho, Op.operands])] at h1
  have hb := st.evbd x; rw [hx x (by simp [ho, Op.operands])] at hb
  split at hr
  · rename_i b off hx0
    simp only [Option.some.injEq] at hr; subst hr
    rw [hx0] at h1 hb
    refine outc_pure st (u := a.eval x) ?_ h1 hb
    simp only [RX] at h1
    simp [execOp, ho, h1]
  · rename_i g fs caps hx0
    simp only [Option.some.injEq] at hr; subst hr
    rw [hx0] at h1 hb
    refine outc_pure st (u := a.eval x) ?_ h1 hb
    simp only [RX] at h1
    obtain ⟨vs, us, h1, _⟩ := h1
    simp [execOp, ho, h1]
  · rename_i t y hx0
    simp only [Option.some.injEq] at hr; subst hr
    rw [hx0] at h1 hb
    refine outc_pure st (u := a.eval x) ?_ h1 hb
    simp only [RX] at h1
    obtain ⟨z, h1, _⟩ := h1
    simp [execOp, ho, h1]
  · cases hr
def rMkfn (ng : Nat) (f : Nat → X) (g : Fn) (first caps : Array Operand) : Option Out := match g with
  | .func k => some ⟨.fn k (first.toList.map (evX ng f)) (caps.toList.map (evX ng f)), .nop, []⟩
  | _ => none
theorem RXL_map_ev {n0 N : Nat} {S : Nat → Prop} {M : Nm} {f2 : Nat → X} {h2 : HF} {a : Act} {w : World} (st : St n0 ng N S M f2 h2 a w) : ∀ (xs : List Operand), (∀ x ∈ xs, evX ng f2 x = evX ng f x) → RXL M (xs.map (evX ng f)) (xs.map a.eval) ∧ bdL S (xs.map (evX ng f))
  | [], _ => by simp [RXL, bdL]
  | x :: xs, hx => by
    obtain ⟨h1, h2⟩ := RXL_map_ev st xs fun y hy => hx y (by simp [hy])
    have e := hx x (by simp)
    simp only [List.map_cons, RXL, bdL]
    exact ⟨⟨_, _, rfl, e ▸ st.ev x, h1⟩, e ▸ st.evbd x, h2⟩
theorem rMkfn_ok {g : Fn} {first caps : Array Operand} (ho : o.op = .makeFunc g first caps) (hr : rMkfn ng f g first caps = some out) : Snd P ng o f h nb out := by
  unfold rMkfn at hr
  split at hr
  case h_2 => cases hr
  rename_i k
  simp only [Option.some.injEq] at hr; subst hr
  intro n0 N S M f2 h2 a w st hx ha hn
  obtain ⟨h1, h3⟩ := RXL_map_ev (f := f) st caps.toList fun x hx' => hx x (by simp [ho, Op.operands]; right; simpa using hx')
  obtain ⟨h4, h5⟩ := RXL_map_ev (f := f) st first.toList fun x hx' => hx x (by simp [ho, Op.operands]; left; simpa using hx')
  refine outc_pure st (u := .func (.func k) (first.map a.eval) (caps.map a.eval)) (by simp [execOp, ho, Instr.makeFunc]) ?_ (by simp only [X.bd]; exact ⟨h5, h3⟩)
  simp only [RX]
  exact ⟨_, _, rfl, by simpa using h4, by simpa using h1⟩
def rFaddr (P : Program) (ng : Nat) (f : Nat → X) (t : TypeId) (x : Operand) (j : Nat) : Option Out := match evX ng f x with
  | .ptr b off => match P.underlying t with
    | some (.struct fs) => match fs[j]? with
      | some fd => match P.info? fd.type with
        | some i => match Nat.beq i.size 0 with
          | false => some ⟨.ptr b (off + fd.offset), .nop, []⟩
          | true => none
        | none => none
      | none => none
    | _ => none
  | _ => none
theorem add_lit' {g off n : Nat} : (⟨g, off, none⟩ : Addr).add n = ⟨g, off + n, none⟩ := by unfold Addr.add; split <;> simp_all
theorem rFaddr_ok {t : TypeId} {x : Operand} {j : Nat} (ho : o.op = .fieldAddr t x j) (hr : rFaddr P ng f t x j = some out) : Snd P ng o f h nb out := by
  unfold rFaddr at hr
  split at hr
  case h_2 => cases hr
  rename_i b off hx0
  split at hr
  case h_2 => cases hr
  rename_i fs hu
  split at hr
  case h_2 => cases hr
  rename_i fd hfd
  split at hr
  case h_2 => cases hr
  rename_i ti hi
  split at hr
  case h_2 => cases hr
  rename_i hpos
  simp only [Option.some.injEq] at hr; subst hr
  have hpos : ¬ ti.size = 0 := fun e => by rw [e] at hpos; cases hpos
  intro n0 N S M f2 h2 a w st hx ha hn
  have h1 := st.ev x; rw [hx x (by simp [ho, Op.operands]), hx0] at h1; simp only [RX] at h1
  have hb := st.evbd x; rw [hx x (by simp [ho, Op.operands]), hx0] at hb
  have h5 : (sizeOf fd.type).run P w = .ok ti.size w := by simp [sizeOf, typeInfo, hi]
  refine outc_pure st (u := .pointer (some ⟨M.φ b, off + fd.offset, none⟩)) ?_ (by simp [RX]) (by simpa only [X.bd] using hb)
  have : (Instr.fieldAt t (a.eval x) j).run P w = .ok (.pointer (some ⟨M.φ b, off + fd.offset, none⟩)) w := by
    rw [h1]
    simp [Instr.fieldAt, run_underlying hu, hfd, Instr.sureAddr, fieldPlace, h5, hpos, add_lit']
  simp only [execOp, ho, Sem.run_bind, this, Result.andThen_ok, Sem.run_pure]
def rExt (ng : Nat) (f : Nat → X) (x : Operand) (k : Nat) : Option Out := match evX ng f x with
  | .tup vs => match vs[k]? with
    | some v => some ⟨v, .nop, []⟩
    | none => none
  | _ => none
theorem rExt_ok {x : Operand} {k : Nat} (ho : o.op = .extract x k) (hr : rExt ng f x k = some out) : Snd P ng o f h nb out := by
  unfold rExt at hr
  split at hr
  case h_2 => cases hr
  rename_i vs hx0
  split at hr
  case h_2 => cases hr
  rename_i v hv
  simp only [Option.some.injEq] at hr; subst hr
  intro n0 N S M f2 h2 a w st hx ha hn
  have h1 := st.ev x; rw [hx x (by simp [ho, Op.operands]), hx0] at h1; simp only [RX] at h1
  have hb := st.evbd x; rw [hx x (by simp [ho, Op.operands]), hx0] at hb; simp only [X.bd] at hb
  obtain ⟨us, h1, h3⟩ := h1
  obtain ⟨u, h4, h5⟩ := RXL_get h3 k v hv
  have h6 : us[k]? = some u := by simpa using h4
  exact outc_pure st (u := u) (by simp [execOp, ho, h1, Instr.extract, h6]) h5 (bdL_iff.1 hb v (List.mem_of_getElem? hv))
def rField (P : Program) (ng : Nat) (f : Nat → X) (t : TypeId) (x : Operand) (j : Nat) : Option Out := match evX ng f x with
  | .agg cs => match P.underlying t with
    | some (.struct fs) => match fs[j]? with
      | some fd => match Ab.isAggB P fd.type with
        | some g => match P.info? fd.type with
          | some i => match (g || Nat.beq i.size 1) with
            | true => match Nat.ble (fd.offset + i.size) cs.length with
              | true => some ⟨unc g ((cs.drop fd.offset).take i.size), .nop, []⟩
              | false => none
            | false => none
          | none => none
        | none => none
      | none => none
    | _ => none
  | _ => none
theorem RXL_take {M : Nm} : ∀ {cs : List X} {us : List Value} (n : Nat), RXL M cs us → RXL M (cs.take n) (us.take n)
  | [], us, n, r => by simp only [RXL] at r; subst r; simp [RXL]
  | c :: cs, us, n, r => by
    simp only [RXL] at r
    obtain ⟨u, us', rfl, r1, r2⟩ := r
    cases n with
    | zero => simp [RXL]
    | succ n => simp only [List.take_succ_cons, RXL]; exact ⟨u, _, rfl, r1, RXL_take n r2⟩
theorem RXL_drop {M : Nm} : ∀ {cs : List X} {us : List Value} (n : Nat), RXL M cs us → RXL M (cs.drop n) (us.drop n)
  | [], us, n, r => by simp only [RXL] at r; subst r; simp [RXL]
  | c :: cs, us, n, r => by
    cases n with
    | zero => simpa using r
    | succ n =>
      simp only [RXL] at r
      obtain ⟨u, us', rfl, r1, r2⟩ := r
      simpa using RXL_drop n r2
theorem rField_ok {t : TypeId} {x : Operand} {j : Nat} (ho : o.op = .field t x j) (hr : rField P ng f t x j = some out) : Snd P ng o f h nb out := by
  unfold rField at hr
  split at hr
  case h_2 => cases hr
  rename_i cs hx0
  split at hr
  case h_2 => cases hr
  rename_i fs hu
  split at hr
  case h_2 => cases hr
  rename_i fd hfd
  split at hr
  case h_2 => cases hr
  rename_i g hg
  split at hr
  case h_2 => cases hr
  rename_i ti hi
  split at hr
  case h_2 => cases hr
  rename_i hcond
  split at hr
  case h_2 => cases hr
  rename_i hle
  simp only [Option.some.injEq] at hr; subst hr
  have hle := Nat.le_of_ble_eq_true hle
  have hcond : g = true ∨ ti.size = 1 := by
    rw [Bool.or_eq_true] at hcond
    exact hcond.imp id Nat.eq_of_beq_eq_true
  have run : ∀ (us : Array Value) (w : World), fd.offset + ti.size ≤ us.size → (Instr.field t (.agg us) j).run P w = .ok (Ab.mkc g ((us.toList.drop fd.offset).take ti.size)) w := fun us w hle => by
    have h5 : (sizeOf fd.type).run P w = .ok ti.size w := by simp [sizeOf, typeInfo, hi]
    simp only [Instr.field, Sem.run_bind, run_underlying hu, Result.andThen_ok, hfd, asAgg, part, Ab.run_isAgg hg, Sem.run_pure]
    cases g with
    | true =>
      simp only [if_true, Sem.run_bind, h5, Result.andThen_ok, Sem.run_pure, Ab.mkc]
      congr 2
      apply Array.ext'
      simp [List.take_drop]
    | false =>
      have h1 : ti.size = 1 := by simpa using hcond
      rw [h1] at hle
      have h2 : us[fd.offset]? = some us[fd.offset] := Array.getElem?_eq_getElem (by omega)
      simp only [Bool.false_eq_true, if_false, h2, Sem.run_pure, Ab.mkc, h1]
      congr 1
      rw [List.take_one, List.head?_drop, Array.getElem?_toList, h2]; rfl
  intro n0 N S M f2 h2 a w st hx ha hn
  have h1 := st.ev x; rw [hx x (by simp [ho, Op.operands]), hx0] at h1; simp only [RX] at h1
  have hb := st.evbd x; rw [hx x (by simp [ho, Op.operands]), hx0] at hb; simp only [X.bd] at hb
  obtain ⟨us, h1, hone, h3⟩ := h1
  have hl := RXL_len h3
  rw [Array.length_toList] at hl
  refine outc_pure st (by simp only [execOp, ho, h1, Sem.run_bind, run us w (by omega), Result.andThen_ok, Sem.run_pure]) (unc_ok (RXL_take _ (RXL_drop _ h3)) (fun u hu => hone u (List.mem_of_mem_drop (List.mem_of_mem_take hu))) ?_) (unc_bd (bdL_sub hb fun c hc => List.mem_of_mem_drop (List.mem_of_mem_take hc)))
  rcases hcond with hcond | hcond
  · exact .inl hcond
  · right; simp; omega
end
end Go.Ev
