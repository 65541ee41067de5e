/- Each operation does in the machine what it does to abstract values: what is built, append. -/
import Derived.Test.YtgphapkpoamcgaaBb9
import Derived.Laws.MakeOwn
import Derived.Laws.Tables
set_option linter.unusedVariables false
set_option linter.unusedSimpArgs false
namespace Go.Ab
open Go.RowKit

def setAll (arr : Array Value) (off : Nat) (us : Array Value) : Array Value := us.zipIdx.foldl (fun cs (c, j) => cs.setIfInBounds (off + j) c) arr
theorem setList_get (off : Nat) : ∀ (us : List Value) (m : Nat) (arr : Array Value) (k : Nat), off + m + us.length ≤ arr.size →
    ((us.zipIdx m).foldl (fun cs (c, j) => cs.setIfInBounds (off + j) c) arr).size = arr.size ∧
    ((us.zipIdx m).foldl (fun cs (c, j) => cs.setIfInBounds (off + j) c) arr)[k]? = if off + m ≤ k ∧ k < off + m + us.length then us[k - (off + m)]? else arr[k]?
  | [], m, arr, k, _ => by simp; omega
  | u :: us, m, arr, k, hl => by
    simp only [List.length_cons] at hl
    simp only [List.zipIdx_cons, List.foldl_cons]
    obtain ⟨h1, h2⟩ := setList_get off us (m + 1) (arr.setIfInBounds (off + m) u) k (by simp; omega)
    refine ⟨by rw [h1]; simp, ?_⟩
    rw [h2, Array.getElem?_setIfInBounds]
    simp only [List.length_cons]
    by_cases hk : k = off + m
    · subst hk
      rw [if_neg (by omega), if_pos rfl, if_pos (by omega), if_pos (by omega)]
      simp
    · by_cases hk2 : off + (m + 1) ≤ k ∧ k < off + (m + 1) + us.length
      · rw [if_pos hk2, if_pos (by omega), show k - (off + m) = (k - (off + (m + 1))) + 1 by omega]
        simp
      · rw [if_neg hk2, if_neg (by omega), if_neg (by omega)]
theorem setAll_get {arr : Array Value} {off : Nat} {us : Array Value} (hl : off + us.size ≤ arr.size) (k : Nat) :
    (setAll arr off us).size = arr.size ∧ (setAll arr off us)[k]? = if off ≤ k ∧ k < off + us.size then us[k - off]? else arr[k]? := by
  have := setList_get off us.toList 0 arr k (by simpa using hl)
  unfold setAll
  rw [← Array.foldl_toList, Array.toList_zipIdx]
  simpa using this
theorem spl_get : ∀ (new : List V) (cs : List V) (j k : Nat), j + new.length ≤ cs.length → (spl cs j new)[k]? = if j ≤ k ∧ k < j + new.length then new[k - j]? else cs[k]?
  | [], cs, j, k, _ => by simp [spl]; omega
  | c :: new, cs, j, k, hl => by
    simp only [List.length_cons] at hl
    rw [spl, spl_get new _ _ _ (by simp; omega), List.getElem?_set]
    simp only [List.length_cons]
    by_cases hk : k = j
    · subst hk
      rw [if_neg (by omega), if_pos rfl, if_pos (by omega), if_pos (by omega)]
      simp
    · by_cases hk2 : j + 1 ≤ k ∧ k < j + 1 + new.length
      · rw [if_pos hk2, if_pos (by omega), show k - j = (k - (j + 1)) + 1 by omega]
        simp
      · rw [if_neg hk2, if_neg (by omega), if_neg (by omega)]

/-- parts, pair by pair -/
def RParts (G : Gh) : List (Nat × V) → List (Nat × Value) → Prop
  | [], qs => qs = []
  | (i, v) :: ps, qs => ∃ u qs', qs = (i, u) :: qs' ∧ R G v u ∧ RParts G ps qs'
theorem RParts_ev {f : FV} {N S G f2 h2 a w} (st : St N S G f2 h2 a w) : ∀ (parts : List (Nat × Operand)), (∀ x ∈ parts.map (·.2), ev f2 x = ev f x) →
    RParts G (parts.map fun p => (p.1, ev f p.2)) (parts.map fun p => (p.1, a.eval p.2)) ∧ ∀ p ∈ (parts.map fun p => (p.1, ev f p.2)), p.2.bd S
  | [], _ => by simp [RParts]
  | (i, x) :: parts, hx => by
    obtain ⟨h1, h2⟩ := RParts_ev st parts fun y hy => hx y (by simp at hy ⊢; exact .inr hy)
    have e := hx x (by simp)
    simp only [List.map_cons, RParts]
    refine ⟨⟨_, _, rfl, e ▸ st.ev x, h1⟩, fun p hp => ?_⟩
    rcases List.mem_cons.1 hp with rfl | hp
    · exact e ▸ st.evbd x
    · exact h2 p hp

theorem fill_R {S : Nat → Prop} {G : Gh} {places : List (Nat × Nat)} : ∀ (ps : List (Nat × V)) (qs : List (Nat × Value)) (cs : List V) (arr : Array Value) (cs' : List V), RParts G ps qs → (∀ p ∈ ps, p.2.bd S) → RL G cs arr.toList → V.bdL S cs → (∀ u ∈ arr.toList, u.oneCell' = true) →
    fillA places cs ps = some cs' → ∃ arr', Instr.fill (places.toArray[·]?) arr qs = some arr' ∧ RL G cs' arr'.toList ∧ V.bdL S cs' ∧ ∀ u ∈ arr'.toList, u.oneCell' = true
  | [], qs, cs, arr, cs', hq, _, hr, hb, h1, he => by
    simp only [RParts] at hq; subst hq
    simp only [fillA, Option.some.injEq] at he; subst he
    exact ⟨arr, rfl, hr, hb, h1⟩
  | (i, v) :: ps, qs, cs, arr, cs', hq, hpb, hr, hb, h1, he => by
    simp only [RParts] at hq
    obtain ⟨u, qs', rfl, hu, hq⟩ := hq
    simp only [fillA] at he
    split at he
    case h_2 => cases he
    rename_i off n new hpl hnew
    split at he
    case isFalse => cases he
    rename_i hcond
    obtain ⟨hn, hle⟩ := hcond
    obtain ⟨h3, h4⟩ := cells_R hnew hu
    have hbn := cells_bd hnew (hpb (i, v) (by simp))
    have hus : u.cells.size = n := by have := RL_length h3; simp at this; omega
    have hcl : arr.size = cs.length := by have := RL_length hr; simpa using this
    have hg := fun k => setAll_get (arr := arr) (off := off) (us := u.cells) (by omega) k
    have hsp := fun k => spl_get new cs off k (by omega)
    have hr' : RL G (spl cs off new) (setAll arr off u.cells).toList := by
      refine RL_of (by rw [Array.length_toList, (hg 0).1, length_spl, hcl]) fun k c v' e1 e2 => ?_
      rw [hsp k] at e1
      rw [Array.getElem?_toList, (hg k).2] at e2
      by_cases hk : off ≤ k ∧ k < off + n
      · rw [if_pos (by omega)] at e1 e2
        obtain ⟨v2, e3, e4⟩ := RL_get h3 _ c e1
        rw [Array.getElem?_toList, e2] at e3; cases e3; exact e4
      · rw [if_neg (by omega)] at e1 e2
        obtain ⟨v2, e3, e4⟩ := RL_get hr _ c e1
        rw [Array.getElem?_toList, e2] at e3; cases e3; exact e4
    have hb' : V.bdL S (spl cs off new) := bdL_iff.2 fun c hc => by
      obtain ⟨k, hk⟩ := List.getElem?_of_mem hc
      rw [hsp k] at hk
      split at hk
      · exact bdL_iff.1 hbn c (List.mem_of_getElem? hk)
      · exact bdL_iff.1 hb c (List.mem_of_getElem? hk)
    have h1' : ∀ v' ∈ (setAll arr off u.cells).toList, v'.oneCell' = true := fun v' hv' => by
      obtain ⟨k, hk⟩ := List.getElem?_of_mem hv'
      rw [Array.getElem?_toList, (hg k).2] at hk
      split at hk
      · exact h4 v' (Array.mem_toList_iff.2 (Array.mem_of_getElem? hk))
      · exact h1 v' (Array.mem_toList_iff.2 (Array.mem_of_getElem? hk))
    obtain ⟨arr', e1, e2, e3, e4⟩ := fill_R ps qs' _ _ cs' hq (fun p hp => hpb p (by simp [hp])) hr' hb' h1' he
    refine ⟨arr', ?_, e2, e3, e4⟩
    have hp' : places.toArray[i]? = some (off, n) := by simpa using hpl
    rw [Instr.fill]
    simp only [hp']
    rw [if_neg (by simp; omega)]
    exact e1

section
variable {P : Program} {nb : Nat} {f : FV} {h : HF} {K : Kont}
theorem snd_build {t : TypeId} {parts : Array (Nat × Operand)} {o : AO} (hc : compOp P (.build t parts) = some o) (hA : AS o nb f h K) : Snd P (.build t parts) nb f h K := by
  simp only [compOp] at hc
  split at hc
  case h_2 => cases hc
  rename_i ti fields hi hu
  split at hc
  case h_2 => cases hc
  rename_i z places hz hpl
  split at hc
  case isFalse => cases hc
  rename_i hone
  simp only [Option.some.injEq] at hc; subst hc
  simp only [AS] at hA
  split at hA
  case h_2 => exact hA.elim
  rename_i cs hcs
  refine snd_pure _ hA fun N S G f2 h2 a w st hx oper ho => ?_
  obtain ⟨h1, h3⟩ := RParts_ev (f := f) st parts.toList fun x hx' => hx x (by simpa [Op.operands] using hx')
  obtain ⟨arr, e1, e2, e3, e4⟩ := fill_R _ _ (z.cells.toList.map lv) z.cells cs h1 h3 (RL_lits _) (bdL_lits _) (fun u hu => List.all_eq_true.1 hone u hu) hcs
  refine ⟨.agg arr, ?_, by simp only [R]; exact ⟨arr, rfl, e4, e2⟩, by simpa [V.bd] using e3⟩
  have hb : P.built t (parts.map fun p => (p.1, a.eval p.2)).toList = some arr := by
    unfold Program.built
    simp only [hi, hu, hz, hpl, Array.toList_map]
    exact e1
  have := run_build (P := P) w t (parts.map fun p => (p.1, a.eval p.2)) arr hb
  simp only [execOp, ho, Sem.run_bind]
  rw [show (parts.map fun (i, x) => (i, a.eval x)) = parts.map fun p => (p.1, a.eval p.2) from rfl, this]
  rfl

/-- the rows of a new slice, the machine's cells -/
structure Rows (S : Nat → Prop) (G : Gh) (sz : Nat) (xs : List (List V)) (arr : Array Value) : Prop where
  size : arr.size = xs.length * sz
  len : ∀ cs ∈ xs, cs.length = sz
  bd : ∀ cs ∈ xs, V.bdL S cs
  cell : ∀ (i j : Nat) cs c, xs[i]? = some cs → cs[j]? = some c → ∃ u, arr[i * sz + j]? = some u ∧ u.oneCell' = true ∧ R G c u
theorem fillE_R {S : Nat → Prop} {G : Gh} {sz : Nat} (hsz : 0 < sz) : ∀ (ps : List (Nat × V)) (qs : List (Nat × Value)) (xs : List (List V)) (arr : Array Value) (xs' : List (List V)), RParts G ps qs → (∀ p ∈ ps, p.2.bd S) → (∀ p ∈ ps, p.1 < xs.length) → Rows S G sz xs arr →
    fillE sz xs ps = some xs' → ∃ arr', Instr.fill (fun i => some (i * sz, sz)) arr qs = some arr' ∧ Rows S G sz xs' arr' ∧ xs'.length = xs.length
  | [], qs, xs, arr, xs', hq, _, _, hr, he => by
    simp only [RParts] at hq; subst hq
    simp only [fillE, Option.some.injEq] at he; subst he
    exact ⟨arr, rfl, hr, rfl⟩
  | (i, v) :: ps, qs, xs, arr, xs', hq, hpb, hpl, hr, he => by
    simp only [RParts] at hq
    obtain ⟨u, qs', rfl, hu, hq⟩ := hq
    simp only [fillE] at he
    split at he
    case h_2 => cases he
    rename_i new hnew
    split at he
    case isFalse => cases he
    rename_i hn
    obtain ⟨h3, h4⟩ := cells_R hnew hu
    have hbn := cells_bd hnew (hpb (i, v) (by simp))
    have hus : u.cells.size = sz := by have := RL_length h3; simp at this; omega
    have hil : i < xs.length := hpl (i, v) (by simp)
    have hfit : i * sz + sz ≤ arr.size := by
      rw [hr.size, ← Nat.succ_mul]; exact Nat.mul_le_mul_right _ hil
    have hg := fun k => setAll_get (arr := arr) (off := i * sz) (us := u.cells) (by omega) k
    have hr' : Rows S G sz (xs.set i new) (setAll arr (i * sz) u.cells) := by
      refine ⟨by rw [(hg 0).1, hr.size, List.length_set], fun cs hcs => ?_, fun cs hcs => ?_, fun k j cs c e1 e2 => ?_⟩
      · rcases List.mem_or_eq_of_mem_set hcs with hcs | rfl
        · exact hr.len cs hcs
        · exact hn
      · rcases List.mem_or_eq_of_mem_set hcs with hcs | rfl
        · exact hr.bd cs hcs
        · exact hbn
      · rw [List.getElem?_set] at e1
        rw [(hg _).2]
        by_cases hik : i = k
        · subst hik
          rw [if_pos rfl, if_pos hil] at e1
          cases e1
          have hj : j < sz := by rw [← hn]; exact (List.getElem?_eq_some_iff.1 e2).1
          obtain ⟨v2, e3, e4⟩ := RL_get h3 j c e2
          rw [Array.getElem?_toList] at e3
          exact ⟨v2, by rw [if_pos (by omega), Nat.add_sub_cancel_left]; exact e3, h4 v2 (Array.mem_toList_iff.2 (Array.mem_of_getElem? e3)), e4⟩
        · rw [if_neg hik] at e1
          have hj : j < sz := by rw [← hr.len cs (List.mem_of_getElem? e1)]; exact (List.getElem?_eq_some_iff.1 e2).1
          rw [if_neg]
          · exact hr.cell k j cs c e1 e2
          · rw [hus]
            intro ⟨q1, q2⟩
            apply hik
            rcases Nat.lt_trichotomy i k with hlt | heq | hlt
            · have := Nat.mul_le_mul_right sz (show i + 1 ≤ k by omega); rw [Nat.add_mul] at this; omega
            · exact heq
            · have := Nat.mul_le_mul_right sz (show k + 1 ≤ i by omega); rw [Nat.add_mul] at this; omega
    obtain ⟨arr', e1, e2, e3⟩ := fillE_R hsz ps qs' _ _ xs' hq (fun p hp => hpb p (by simp [hp])) (fun p hp => by rw [List.length_set]; exact hpl p (by simp [hp])) hr' he
    refine ⟨arr', ?_, e2, by rw [e3, List.length_set]⟩
    simp only [Instr.fill]
    rw [if_neg (by simp; omega)]
    exact e1

theorem made_get {z : Array Value} {n k : Nat} (hz : 0 < z.size) (hk : k < n) : (madeCells z n)[k]? = z[k % z.size]? := by
  have : k % z.size < z.size := Nat.mod_lt _ hz
  simp only [madeCells, Array.getElem?_map]
  rw [Array.getElem?_eq_getElem (by simpa using hk), Array.getElem?_eq_getElem this]
  simp [getElem!_pos, this]
theorem rows_made {S : Nat → Prop} {G : Gh} {sz n : Nat} {z : Array Value} (hsz : 0 < sz) (hz : z.size = sz) (hone : ∀ u ∈ z.toList, u.oneCell' = true) : Rows S G sz (List.replicate n (z.toList.map lv)) (madeCells z (n * sz)) := by
  refine ⟨by simp [size_madeCells], fun cs hcs => ?_, fun cs hcs => ?_, fun i j cs c e1 e2 => ?_⟩
  · rw [List.eq_of_mem_replicate hcs]; simpa using hz
  · rw [List.eq_of_mem_replicate hcs]; exact bdL_lits _
  · have hin : i < n := by have := (List.getElem?_eq_some_iff.1 e1).1; simpa using this
    have : cs = z.toList.map lv := List.eq_of_mem_replicate (List.mem_of_getElem? e1)
    subst this
    simp only [List.getElem?_map, Option.map_eq_some_iff] at e2
    obtain ⟨u, e3, rfl⟩ := e2
    have hj : j < sz := by rw [← hz]; have := (List.getElem?_eq_some_iff.1 e3).1; simpa using this
    refine ⟨u, ?_, hone u (List.mem_of_getElem? e3), by simp [R, lv, RP]⟩
    rw [made_get (by omega) (by have := Nat.mul_le_mul_right sz (show i + 1 ≤ n by omega); rw [Nat.add_mul] at this; omega), hz, Nat.mul_comm i, Nat.mul_add_mod, Nat.mod_eq_of_lt hj]
    simpa using e3

theorem outc_rows {N S G f2 h2 a w} (st : St N S G f2 h2 a w) (hn : ¬ S nb) (ty sz : Nat) (arr : Array Value) (xs : List (List V)) (hsz : 0 < sz) (cells : Array Value) (hcs : cells.size = arr.size + 0 ∨ arr.size ≤ cells.size) (hr : Rows S G sz xs arr)
    (hpre : ∀ k, k < arr.size → cells[k]? = arr[k]?) (res : Result Next) (n cap : Nat) (fl : Bool) (hxl : xs.length = n) (hcap : n ≤ cap) (hbig : n ≤ big) (hcm : cap ≤ maxLen) (hcc : cap * sz = cells.size) (hfl : fl = true → cap = n)
    (hres : res = .ok (.value (.slice (some ⟨w.heap.size, 0, none⟩) n cap)) (w.alloc (.cells cells ty))) : Outc S G h2 w res (.row nb n fl) [(nb, some ⟨false, ty, sz, xs, none⟩)] := by
  refine outc_alloc st hn ty sz cells xs res _ _ hres (fun i cs e => hr.len cs (List.mem_of_getElem? e)) ?_ (fun i j cs c e1 e2 => ?_) hr.bd ?_ (by simp [V.bd, SS])
  · rw [hxl, ← hcc]; exact Nat.mul_le_mul_right _ hcap
  · obtain ⟨u, e3, e4⟩ := hr.cell i j cs c e1 e2
    exact ⟨u, by rw [hpre _ (Array.getElem?_eq_some_iff.1 e3).1]; exact e3, e4⟩
  · simp only [R]; exact ⟨cap, by simp [Gh.new], hcap, hbig, hcm, by simpa [Gh.new] using hcc, hfl⟩

theorem range0 {α : Type} (g : Nat → α) {m : Nat} (h : m = 0) : (Array.range m).map g = #[] := by subst h; simp
theorem run_bslice {t e : TypeId} {len n : Nat} {ti : TypeInfo} {zv : Value} {w : World} (hu : P.underlying t = some (.slice e)) (hi : P.info? e = some ti) (hz : ti.zero = some zv) (hsz : ti.size = n) (ps : Array (Nat × Value)) (arr : Array Value)
    (hlim : len * n ≤ 2 ^ 24) (hf : Instr.fill (fun i => some (i * n, n)) (madeCells zv.cells (len * n)) ps.toList = some arr) :
    (Instr.buildSlice t len ps).run P w = .ok (.slice (some ⟨w.heap.size, 0, none⟩) len len) (w.alloc (.cells arr e)) := by
  have h5 : (sizeOf e).run P w = .ok n w := by simp [sizeOf, typeInfo, hi, hsz]
  have h6 : (zeroValue e).run P w = .ok zv w := by simp [zeroValue, typeInfo, hi, hz]
  have hlim' : ¬ (len * n > 2 ^ 24) := by omega
  have hfin : (newRow e arr).run P w = .ok ⟨w.heap.size, 0, none⟩ (w.alloc (.cells arr e)) := by simp [newRow]
  simp only [madeCells] at hf
  simp only [Instr.buildSlice, Sem.run_bind, run_underlying hu, Result.andThen_ok, h5]
  rw [if_neg hlim']
  by_cases h0 : len * n = 0
  · rw [range0 _ h0] at hf
    simp only [h0, if_true, Sem.run_bind, Sem.run_pure, Result.andThen_ok]
    rw [range0 _ rfl, hf]
    simp only [Sem.run_bind, hfin, Result.andThen_ok, Sem.run_pure]
  · simp only [h0, if_false, Sem.run_bind, h6, Sem.run_pure, Result.andThen_ok]
    rw [hf]
    simp only [Sem.run_bind, hfin, Result.andThen_ok, Sem.run_pure]
theorem snd_bslice {t : TypeId} {len : Nat} {parts : Array (Nat × Operand)} {o : AO} (hc : compOp P (.buildSlice t len parts) = some o) (hA : AS o nb f h K) : Snd P (.buildSlice t len parts) nb f h K := by
  simp only [compOp] at hc
  split at hc
  case h_2 => cases hc
  rename_i e hu
  split at hc
  case h_2 => cases hc
  rename_i n z hz0
  split at hc
  case isFalse => cases hc
  rename_i hcond
  simp only [Option.some.injEq] at hc; subst hc
  obtain ⟨ti, zv, hi, hz, hpos, hsz, hvs, rfl, hzl, hone⟩ := zeroOf_spec hz0
  simp only [AS] at hA
  split at hA
  case h_2 => exact hA.elim
  rename_i xs hxs
  refine ⟨_, [], _, hA, by simp, fun N S G f2 h2 a w st hx _ hn oper ho => ?_⟩
  obtain ⟨h1, h3⟩ := RParts_ev (f := f) st parts.toList fun x hx' => hx x (by simpa [Op.operands] using hx')
  have hall := List.all_eq_true.1 hcond.2
  obtain ⟨arr, e1, e2, e3⟩ := fillE_R hpos _ _ (List.replicate len (zv.cells.toList.map lv)) (madeCells zv.cells (len * n)) xs h1 h3 (fun p hp => by
    obtain ⟨q, hq, rfl⟩ := List.mem_map.1 hp
    simpa using hall q hq) (rows_made hpos hvs hone) hxs
  have hlen : xs.length = len := by simpa using e3
  refine outc_rows st hn e n arr xs hpos arr (.inr (Nat.le_refl _)) e2 (fun _ _ => rfl) _ len len true hlen (Nat.le_refl _) ?_ ?_ (by rw [e2.size, hlen]) (by simp) ?_
  · have := hcond.1
    have h2 : len ≤ len * n := Nat.le_mul_of_pos_right _ hpos
    unfold big; omega
  · have := hcond.1
    have h2 : len ≤ len * n := Nat.le_mul_of_pos_right _ hpos
    unfold maxLen; omega
  · have hr := run_bslice (P := P) (w := w) hu hi hz hsz (parts.map fun p => (p.1, a.eval p.2)) arr hcond.1 (by simpa using e1)
    simp only [execOp, ho, Sem.run_bind]
    rw [show (parts.map fun (i, x) => (i, a.eval x)) = parts.map fun p => (p.1, a.eval p.2) from rfl, hr]
    rfl

theorem snd_mkslice {t : TypeId} {l c : Operand} {o : AO} (hc : compOp P (.makeSlice t l c) = some o) (hA : AS o nb f h K) : Snd P (.makeSlice t l c) nb f h K := by
  simp only [compOp] at hc
  split at hc
  case h_2 => cases hc
  rename_i e hu
  split at hc
  case h_2 => cases hc
  rename_i ti0 n z hi0 hz0
  split at hc
  case isFalse => cases hc
  rename_i hby
  simp only [Option.some.injEq] at hc; subst hc
  obtain ⟨ti, zv, hi, hz, hpos, hsz, hvs, rfl, hzl, hone⟩ := zeroOf_spec hz0
  have : ti0 = ti := by rw [hi] at hi0; exact (Option.some.inj hi0).symm
  subst this
  simp only [AS] at hA
  split at hA
  case h_2 => exact hA.elim
  rename_i kl p kc q hl0 hc0
  obtain ⟨ln, cn, rfl, rfl, hlc, hbig, hA⟩ := hA
  refine ⟨_, [], _, hA, by simp, fun N S G f2 h2 a w st hx _ hn oper ho => ?_⟩
  have h1 := st.ev l; rw [hx l (by simp [Op.operands]), hl0] at h1; simp only [R, RP] at h1
  have h2' := st.ev c; rw [hx c (by simp [Op.operands]), hc0] at h2'; simp only [R, RP] at h2'
  unfold big at hbig
  have hb1 : (ti0.bytes : Int) * (cn : Int) ≤ 281474976710656 := by
    have : ti0.bytes * cn ≤ 128 * 1099511627776 := Nat.mul_le_mul hby hbig
    have h3 : ((ti0.bytes * cn : Nat) : Int) ≤ 281474976710656 := by omega
    rwa [Int.natCast_mul] at h3
  have hr := run_make (P := P) w t e ti0 zv hu hi hz kl kc ln cn (by omega) (by omega) hb1 (by omega)
  simp only [Int.toNat_natCast, hsz] at hr
  refine outc_rows st hn e n (madeCells zv.cells (ln * n)) _ hpos (madeCells zv.cells (cn * n)) (.inr ?_) (rows_made hpos hvs hone) (fun k hk => ?_) _ ln cn _ (by simp) hlc (by unfold big; omega) (by unfold maxLen; omega) (by rw [size_madeCells]) (fun hfl => ?_) ?_
  · simp only [size_madeCells]; exact Nat.mul_le_mul_right _ hlc
  · rw [size_madeCells] at hk
    have := Nat.mul_le_mul_right n hlc
    rw [made_get (by omega) hk, made_get (by omega) (by omega)]
  · simpa using (beq_iff_eq.1 hfl).symm
  · simp only [execOp, ho, h1, h2', Sem.run_bind, hr, Result.andThen_ok, Sem.run_pure]

theorem srcK_spec {sz : Nat} {y : Operand} {K' : List (List V) → List Nat → Prop} (hsz : 0 < sz) (hA : srcK sz h (ev f y) K') : ∃ ys rd, K' ys rd ∧ ∀ N S G f2 h2 a w, St N S G f2 h2 a w → ev f2 y = ev f y → (∀ b ∈ rd, h2 b = h b) →
    ∃ A c, a.eval y = .slice A ys.length c ∧ Src G sz w A ys ∧ ∀ cs ∈ ys, V.bdL S cs := by
  unfold srcK at hA
  split at hA
  · rename_i sz' xs hy0
    obtain ⟨rfl, hall, hA⟩ := hA
    refine ⟨_, _, hA, fun N S G f2 h2 a w st hy _ => ?_⟩
    have hv := st.ev y; rw [hy, hy0] at hv; simp only [R, RP] at hv
    obtain ⟨A, n, c, hv, hn, _, _, hr⟩ := hv
    have hbd : ∀ cs ∈ xs.map PV.vcells, V.bdL S cs := fun cs hcs => by
      obtain ⟨x, _, rfl⟩ := List.mem_map.1 hcs; exact bdL_pv _
    refine ⟨A, c, by rw [hv, hn]; simp, ⟨fun cs hcs => ?_, ?_⟩, hbd⟩
    · obtain ⟨x, hx, rfl⟩ := List.mem_map.1 hcs; simpa [PV.vcells] using hall x hx
    · rcases hr with hr | ⟨ad, rfl, hr⟩
      · left; rw [hn] at hr; have := List.eq_nil_of_length_eq_zero hr; simp [this]
      · right
        have hcell : ∀ k, k < xs.length * sz' → ∃ u, G.I (ad.add k) = some u ∧ u.oneCell' = true ∧ ∀ x, xs[k / sz']? = some x → ∀ c, x.cells[k % sz']? = some c → RP G.I c u := fun k hk => by
          have hi : k / sz' < xs.length := (Nat.div_lt_iff_lt_mul hsz).2 hk
          have hx := List.getElem?_eq_getElem hi
          obtain ⟨h1, h2⟩ := RPE_iff.1 hr _ _ hx
          have hj : k % sz' < xs[k / sz'].cells.length := by rw [h1]; exact Nat.mod_lt _ hsz
          obtain ⟨u, e1, e2, e3⟩ := RPC_iff.1 h2 _ _ (List.getElem?_eq_getElem hj)
          refine ⟨u, ?_, e2, fun x hx2 c hc => ?_⟩
          · rw [Nat.zero_add, Nat.mul_comm, Nat.div_add_mod] at e1; exact e1
          · rw [hx] at hx2; cases hx2; rw [List.getElem?_eq_getElem hj] at hc; cases hc; exact e3
        have hget : ∀ j u, ((List.range (xs.length * sz')).map fun k => (G.I (ad.add k)).getD undef)[j]? = some u → j < xs.length * sz' ∧ G.I (ad.add j) = some u := fun j u hu => by
          simp only [List.getElem?_map, Option.map_eq_some_iff] at hu
          obtain ⟨j', hj', rfl⟩ := hu
          have hlt : j < xs.length * sz' := by have := (List.getElem?_eq_some_iff.1 hj').1; simpa using this
          have : j' = j := by rw [List.getElem?_range hlt] at hj'; simpa using hj'.symm
          subst this
          obtain ⟨u, e, _⟩ := hcell j' hlt
          exact ⟨hlt, by rw [e]; rfl⟩
        refine ⟨ad, (List.range (xs.length * sz')).map fun k => (G.I (ad.add k)).getD undef, rfl, by simp, fun j u hu => st.rel.imm _ _ (hget j u hu).2, fun u hu => ?_, fun i j cs c e1 e2 => ?_⟩
        · obtain ⟨k, hk⟩ := List.getElem?_of_mem hu
          obtain ⟨h1, h2⟩ := hget k u hk
          obtain ⟨u', e, e', _⟩ := hcell k h1
          rw [e] at h2; cases h2; exact e'
        · simp only [List.getElem?_map, Option.map_eq_some_iff] at e1
          obtain ⟨x, hx, rfl⟩ := e1
          simp only [PV.vcells, List.getElem?_map, Option.map_eq_some_iff] at e2
          obtain ⟨q, hq, rfl⟩ := e2
          have hj : j < sz' := by rw [← hall x (List.mem_of_getElem? hx)]; exact (List.getElem?_eq_some_iff.1 hq).1
          have hi : i < xs.length := (List.getElem?_eq_some_iff.1 hx).1
          have hk : i * sz' + j < xs.length * sz' := by have := Nat.mul_le_mul_right sz' (show i + 1 ≤ xs.length by omega); rw [Nat.add_mul] at this; omega
          obtain ⟨u, e, _, e3⟩ := hcell _ hk
          refine ⟨u, ?_, ?_⟩
          · rw [List.getElem?_map, List.getElem?_range hk]; simp [e]
          · have h1 : (i * sz' + j) / sz' = i := by rw [Nat.mul_comm, Nat.mul_add_div hsz, Nat.div_eq_of_lt hj]; rfl
            have h2 : (i * sz' + j) % sz' = j := by rw [Nat.mul_comm, Nat.mul_add_mod, Nat.mod_eq_of_lt hj]
            simp only [R]
            exact e3 x (by rw [h1]; exact hx) q (by rw [h2]; exact hq)
  · rename_i hy0
    refine ⟨_, _, hA, fun N S G f2 h2 a w st hy _ => ?_⟩
    have hv := st.ev y; rw [hy, hy0] at hv; simp only [R, RP] at hv
    exact ⟨none, 0, hv, ⟨by simp, .inl rfl⟩, by simp⟩
  · rename_i b m fl hy0
    split at hA
    case h_2 => exact hA.elim
    rename_i k hk
    obtain ⟨hks, hml, hA⟩ := hA
    refine ⟨_, _, hA, fun N S G f2 h2 a w st hy hr => ?_⟩
    have hv := st.ev y; rw [hy, hy0] at hv; simp only [R] at hv
    obtain ⟨cap, hv, hc, _⟩ := hv
    have hk2 : h2 b = some k := (hr b (by simp)).trans hk
    obtain ⟨arr, e, rr⟩ := st.rel.blk b k hk2
    have hfit : m * k.sz ≤ arr.size := Nat.le_trans (Nat.mul_le_mul_right _ hml) rr.fits
    refine ⟨_, cap, by rw [hv, List.length_take, Nat.min_eq_left hml], ⟨fun cs hcs => ?_, ?_⟩, fun cs hcs => st.rel.bd b k hk2 cs (List.mem_of_mem_take hcs)⟩
    · obtain ⟨i, hi⟩ := List.getElem?_of_mem (List.mem_of_mem_take hcs)
      rw [← hks]; exact rr.len i cs hi
    · right
      refine ⟨_, arr.toList.take (m * k.sz), rfl, by simp [Nat.min_eq_left hml, hks] at hfit ⊢; omega, fun j u hu => ?_, fun u hu => ?_, fun i j cs c e1 e2 => ?_⟩
      · rw [add_plain', Nat.zero_add, cell_arr e]
        rw [List.getElem?_take] at hu
        split at hu
        · simpa using hu
        · cases hu
      · obtain ⟨j, hj⟩ := List.getElem?_of_mem hu
        rw [List.getElem?_take] at hj
        split at hj
        case isFalse => cases hj
        rename_i hjlt
        have hpos : 0 < k.sz := by omega
        have hi : j / k.sz < k.xs.length := Nat.lt_of_lt_of_le ((Nat.div_lt_iff_lt_mul hpos).2 hjlt) hml
        have hx := List.getElem?_eq_getElem hi
        have hjm : j % k.sz < (k.xs[j / k.sz]).length := by rw [rr.len _ _ hx]; exact Nat.mod_lt _ hpos
        obtain ⟨v, q1, q2, _⟩ := rr.cell _ _ _ _ hx (List.getElem?_eq_getElem hjm)
        rw [Nat.mul_comm, Nat.div_add_mod] at q1
        rw [Array.getElem?_toList, q1] at hj; cases hj; exact q2
      · rw [List.getElem?_take] at e1
        split at e1
        case isFalse => cases e1
        rename_i him
        obtain ⟨u, q1, _, q3⟩ := rr.cell i j cs c e1 e2
        have hj : j < k.sz := by rw [← rr.len i cs e1]; exact (List.getElem?_eq_some_iff.1 e2).1
        refine ⟨u, ?_, q3⟩
        rw [← hks, take_get (by have := Nat.mul_le_mul_right k.sz (show i + 1 ≤ m by omega); rw [Nat.add_mul] at this; omega), Array.getElem?_toList]; exact q1
  · exact hA.elim
end
end Go.Ab
