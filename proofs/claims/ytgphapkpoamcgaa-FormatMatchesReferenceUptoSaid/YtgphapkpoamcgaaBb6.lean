/- Each operation does in the machine what it does to abstract values: memory, addresses, slices. -/
import Derived.Test.YtgphapkpoamcgaaBb5
set_option linter.unusedVariables false
set_option linter.unusedSimpArgs false
namespace Go.Ab
open Go.RowKit

theorem add_add (ad : Addr) (i j : Nat) : (ad.add i).add j = ad.add (i + j) := by
  unfold Addr.add
  by_cases h1 : i = 0 <;> by_cases h2 : j = 0 <;> simp [h1, h2, Nat.add_assoc]
theorem add_zero (ad : Addr) : ad.add 0 = ad := by simp [Addr.add]
theorem RPC_shift {I : Imm} {ad : Addr} {i k : Nat} {cs : List PV} : RPC I (ad.add i) k cs ↔ RPC I ad (i + k) cs := by
  simp only [RPC_iff, add_add, Nat.add_assoc]
theorem RPE_shift {I : Imm} {ad : Addr} {i k sz : Nat} {xs : List PV} : RPE I (ad.add i) k sz xs ↔ RPE I ad (i + k) sz xs := by
  simp only [RPE_iff, RPC_shift, Nat.add_assoc]
theorem RPC_list {I : Imm} {ad : Addr} : ∀ {cs : List PV} {k : Nat}, RPC I ad k cs → ∃ us : List Value, us.length = cs.length ∧ (∀ (j : Nat) u, us[j]? = some u → I (ad.add (k + j)) = some u) ∧ (∀ u ∈ us, u.oneCell' = true) ∧ RPL I cs us
  | [], k, _ => ⟨[], rfl, by simp, by simp, by simp [RPL]⟩
  | c :: cs, k, h => by
    simp only [RPC] at h
    obtain ⟨⟨u, h1, h2, h3⟩, h4⟩ := h
    obtain ⟨us, e1, e2, e3, e4⟩ := RPC_list h4
    refine ⟨u :: us, by simp [e1], fun j v hv => ?_, fun v hv => ?_, by simp only [RPL]; exact ⟨u, us, rfl, h3, e4⟩⟩
    · cases j with
      | zero => simp at hv; subst hv; simpa using h1
      | succ j => have := e2 j v (by simpa using hv); rwa [show k + (j + 1) = k + 1 + j by omega]
    · rcases List.mem_cons.1 hv with rfl | hv
      · exact h2
      · exact e3 v hv
theorem RPC_take {I : Imm} {ad : Addr} {cs : List PV} {k n : Nat} (h : RPC I ad k cs) : RPC I ad k (cs.take n) :=
  RPC_iff.2 fun i c hc => RPC_iff.1 h i c (by
    rw [List.getElem?_take] at hc
    split at hc
    · exact hc
    · cases hc)
theorem RPC_drop {I : Imm} {ad : Addr} {cs : List PV} {k n : Nat} (h : RPC I ad k cs) : RPC I ad (k + n) (cs.drop n) :=
  RPC_iff.2 fun i c hc => by
    have := RPC_iff.1 h (n + i) c (by simpa [List.getElem?_drop] using hc)
    rwa [Nat.add_assoc]
theorem RPE_take {I : Imm} {ad : Addr} {xs : List PV} {k n sz : Nat} (h : RPE I ad k sz xs) : RPE I ad k sz (xs.take n) :=
  RPE_iff.2 fun i c hc => RPE_iff.1 h i c (by
    rw [List.getElem?_take] at hc
    split at hc
    · exact hc
    · cases hc)
theorem RPE_drop {I : Imm} {ad : Addr} {xs : List PV} {k n sz : Nat} (h : RPE I ad k sz xs) : RPE I ad (k + n * sz) sz (xs.drop n) :=
  RPE_iff.2 fun i c hc => by
    have := RPE_iff.1 h (n + i) c (by simpa [List.getElem?_drop] using hc)
    rwa [Nat.add_mul, ← Nat.add_assoc] at this
theorem RL_take {G : Gh} : ∀ {cs : List V} {us : List Value} (n : Nat), RL G cs us → RL G (cs.take n) (us.take n)
  | [], us, n, h => by simp only [RL] at h; subst h; simp [RL]
  | c :: cs, us, n, h => by
    simp only [RL] at h
    obtain ⟨u, us', rfl, h1, h2⟩ := h
    cases n with
    | zero => simp [RL]
    | succ n => simp only [List.take_succ_cons, RL]; exact ⟨u, _, rfl, h1, RL_take n h2⟩
theorem RL_drop {G : Gh} : ∀ {cs : List V} {us : List Value} (n : Nat), RL G cs us → RL G (cs.drop n) (us.drop n)
  | [], us, n, h => by simp only [RL] at h; subst h; simp [RL]
  | c :: cs, us, n, h => by
    simp only [RL] at h
    obtain ⟨u, us', rfl, h1, h2⟩ := h
    cases n with
    | zero => simp only [List.drop_zero, RL]; exact ⟨u, us', rfl, h1, h2⟩
    | succ n => simpa using RL_drop n h2
theorem RPL_take {I : Imm} : ∀ {cs : List PV} {us : List Value} (n : Nat), RPL I cs us → RPL I (cs.take n) (us.take n)
  | [], us, n, h => by simp only [RPL] at h; subst h; simp [RPL]
  | c :: cs, us, n, h => by
    simp only [RPL] at h
    obtain ⟨u, us', rfl, h1, h2⟩ := h
    cases n with
    | zero => simp [RPL]
    | succ n => simp only [List.take_succ_cons, RPL]; exact ⟨u, _, rfl, h1, RPL_take n h2⟩
theorem RPL_drop {I : Imm} : ∀ {cs : List PV} {us : List Value} (n : Nat), RPL I cs us → RPL I (cs.drop n) (us.drop n)
  | [], us, n, h => by simp only [RPL] at h; subst h; simp [RPL]
  | c :: cs, us, n, h => by
    simp only [RPL] at h
    obtain ⟨u, us', rfl, h1, h2⟩ := h
    cases n with
    | zero => simp only [List.drop_zero, RPL]; exact ⟨u, us', rfl, h1, h2⟩
    | succ n => simpa using RPL_drop n h2

/-- a value made of cells -/
def mkc (agg : Bool) (us : List Value) : Value := if agg then .agg us.toArray else us.headD undef
theorem mkv_R {G : Gh} {g : Bool} {cs : List V} {us : List Value} (hr : RL G cs us) (h1 : ∀ u ∈ us, u.oneCell' = true) (hc : g = true ∨ cs.length = 1) : R G (mkv g cs) (mkc g us) := by
  unfold mkv mkc
  cases g with
  | true => simp only [if_true, R]; exact ⟨us.toArray, rfl, by simpa using h1, hr⟩
  | false =>
    simp only [Bool.false_eq_true, if_false, false_or] at hc ⊢
    match cs, hr, hc with
    | [c], hr, _ =>
      simp only [RL] at hr
      obtain ⟨u, us', rfl, r1, rfl⟩ := hr
      exact r1
theorem mkp_R {I : Imm} {g : Bool} {cs : List PV} {us : List Value} (hr : RPL I cs us) (h1 : ∀ u ∈ us, u.oneCell' = true) (hc : g = true ∨ cs.length = 1) : RP I (mkp g cs) (mkc g us) := by
  unfold mkp mkc
  cases g with
  | true => simp only [if_true, RP]; exact ⟨us.toArray, rfl, by simpa using h1, hr⟩
  | false =>
    simp only [Bool.false_eq_true, if_false, false_or] at hc ⊢
    match cs, hr, hc with
    | [c], hr, _ =>
      simp only [RPL] at hr
      obtain ⟨u, us', rfl, r1, rfl⟩ := hr
      exact r1
theorem mkv_bd {S : Nat → Prop} {g : Bool} {cs : List V} (h : V.bdL S cs) : (mkv g cs).bd S := by
  unfold mkv
  split
  · simpa [V.bd] using h
  · split
    · simpa [V.bdL] using h
    · simp [V.bd]
theorem bdL_sub {S : Nat → Prop} {cs ds : List V} (h : V.bdL S cs) (hs : ∀ c ∈ ds, c ∈ cs) : V.bdL S ds := bdL_iff.2 fun c hc => bdL_iff.1 h c (hs c hc)

section
variable {P : Program} {nb : Nat} {f : FV} {h : HF} {K : Kont}

theorem run_isAgg {t : TypeId} {g : Bool} (hg : isAggB P t = some g) (w : World) : (isAgg t).run P w = .ok g w := by
  unfold isAggB at hg
  cases hu : P.underlying t with
  | none => simp [hu] at hg
  | some d => cases d <;> simp [hu] at hg <;> subst hg <;> simp [isAgg, run_underlying hu]
theorem run_loadAt' {t : TypeId} {g : Bool} {i : TypeInfo} (hg : isAggB P t = some g) (hi : P.info? t = some i) (hcond : g = true ∨ i.size = 1) {w : World} (ad : Addr) (us : List Value) (hl : us.length = i.size)
    (hc : ∀ (j : Nat) u, us[j]? = some u → w.cell? (ad.add j) = some u) : (Instr.loadAt t (.pointer (some ad))).run P w = .ok (mkc g us) w := by
  simp only [Instr.loadAt, Instr.sureAddr, Sem.run_bind, Sem.run_pure, Result.andThen_ok, loadVar, run_isAgg hg]
  cases g with
  | true =>
    have h1 : (sizeOf t).run P w = .ok i.size w := by simp [sizeOf, typeInfo, hi]
    have h2 := run_loadCells_list (P := P) w ad us hc
    rw [hl] at h2
    simp only [if_true, Sem.run_bind, h1, Result.andThen_ok, h2, Sem.run_pure, mkc]
  | false =>
    have h1 : i.size = 1 := by simpa using hcond
    rw [h1] at hl
    match us, hl, hc with
    | [u], _, hc =>
      have := hc 0 u (by simp)
      rw [add_zero] at this
      simp [this, mkc]

theorem snd_load {t : TypeId} {x : Operand} {o : AO} (hc : compOp P (.load t x) = some o) (hA : AS o nb f h K) : Snd P (.load t x) nb f h K := by
  simp only [compOp] at hc
  split at hc
  case h_2 => cases hc
  rename_i g i hg hi
  split at hc
  case isFalse => cases hc
  rename_i hcond
  simp only [Option.some.injEq] at hc; subst hc
  simp only [AS] at hA
  split at hA
  · rename_i b i' off hx0
    split at hA
    case h_2 => exact hA.elim
    rename_i k hk
    split at hA
    case h_2 => exact hA.elim
    rename_i cs hcs
    obtain ⟨hle, hA⟩ := hA
    refine ⟨_, [b], [], hA, by simp, fun N S G f2 h2 a w st hx hr hn oper ho => ?_⟩
    have h1 := st.ev x; rw [hx x (by simp [Op.operands]), hx0] at h1; simp only [R] at h1
    have hk2 : h2 b = some k := (hr b (by simp)).trans hk
    obtain ⟨arr, e, rr⟩ := st.rel.blk b k hk2
    have key : ∃ us : List Value, us.length = i.size ∧ (∀ (j : Nat) u, us[j]? = some u → w.cell? ((⟨G.φ b, i' * G.σ b + off, none⟩ : Addr).add j) = some u) ∧ (∀ u ∈ us, u.oneCell' = true) ∧ RL G ((cs.drop off).take i.size) us := by
      have hex : ∀ j, j < i.size → ∃ u, arr[i' * k.sz + (off + j)]? = some u ∧ u.oneCell' = true ∧ R G (cs.getD (off + j) .junk) u := fun j hj => by
        obtain ⟨u, e1, e2, e3⟩ := rr.cell i' (off + j) cs (cs.getD (off + j) .junk) hcs (by rw [List.getD_eq_getElem?_getD, List.getElem?_eq_getElem (by omega)]; rfl)
        exact ⟨u, e1, e2, e3⟩
      refine ⟨(List.range i.size).map fun j => arr.getD (i' * k.sz + (off + j)) undef, by simp, fun j u hu => ?_, fun u hu => ?_, RL_of (by simp; omega) fun j c u h1 h2 => ?_⟩
      · simp only [List.getElem?_map, Option.map_eq_some_iff] at hu
        obtain ⟨j', hj', rfl⟩ := hu
        have hjlt : j < i.size := by have := (List.getElem?_eq_some_iff.1 hj').1; simpa using this
        have : j' = j := by rw [List.getElem?_range hjlt] at hj'; simpa using hj'.symm
        subst this
        obtain ⟨u, e1, _, _⟩ := hex j' hjlt
        rw [add_plain', cell_arr e, ← rr.sz, show i' * k.sz + off + j' = i' * k.sz + (off + j') by omega, e1]
        simp [e1]
      · obtain ⟨j, hj, rfl⟩ := List.mem_map.1 hu
        obtain ⟨u, e1, e2, _⟩ := hex j (by simpa using hj)
        simpa [e1] using e2
      · simp only [List.getElem?_map, Option.map_eq_some_iff] at h2
        obtain ⟨j', hj', rfl⟩ := h2
        have hjlt : j < i.size := by have := (List.getElem?_eq_some_iff.1 hj').1; simpa using this
        have : j' = j := by rw [List.getElem?_range hjlt] at hj'; simpa using hj'.symm
        subst this
        obtain ⟨u, e1, _, e3⟩ := hex j' hjlt
        rw [List.getElem?_take, if_pos hjlt, List.getElem?_drop] at h1
        rw [List.getD_eq_getElem?_getD, h1] at e3
        simpa [e1] using e3
    obtain ⟨us, e1, e2, e3, e4⟩ := key
    refine outc_pure st (u := mkc g us) ?_ (mkv_R e4 e3 ?_) ?_
    · simp [execOp, ho, h1, run_loadAt' hg hi hcond _ us e1 e2]
    · rcases hcond with hcond | hcond
      · exact .inl hcond
      · right; simp; omega
    · exact mkv_bd (bdL_sub (st.rel.bd b k hk2 cs (List.mem_of_getElem? hcs)) fun c hc => List.mem_of_mem_drop (List.mem_of_mem_take hc))
  · rename_i cs hx0
    obtain ⟨hle, hA⟩ := hA
    refine snd_pure _ hA fun N S G f2 h2 a w st hx oper ho => ?_
    have h1 := st.ev x; rw [hx x (by simp [Op.operands]), hx0] at h1; simp only [R, RP] at h1
    obtain ⟨ad, h1, h3⟩ := h1
    obtain ⟨us, e1, e2, e3, e4⟩ := RPC_list (RPC_take (n := i.size) h3)
    have hl : us.length = i.size := by rw [e1, List.length_take]; omega
    refine ⟨mkc g us, ?_, ?_, by simp [V.bd]⟩
    · simp [execOp, ho, h1, run_loadAt' hg hi hcond ad us hl fun j u hu => st.rel.imm _ _ (by simpa using e2 j u hu)]
    · simp only [R]
      refine mkp_R e4 e3 ?_
      rcases hcond with hcond | hcond
      · exact .inl hcond
      · right; simp; omega
  · exact hA.elim

theorem snd_store {t : TypeId} {x y : Operand} {o : AO} (hc : compOp P (.store t x y) = some o) (hA : AS o nb f h K) : Snd P (.store t x y) nb f h K := by
  simp only [compOp] at hc
  split at hc
  case h_2 => cases hc
  rename_i ti hi
  simp only [Option.some.injEq] at hc; subst hc
  simp only [AS] at hA
  split at hA
  case h_2 => exact hA.elim
  rename_i b i off new hx0 hy0
  split at hA
  case h_2 => exact hA.elim
  rename_i k hk
  split at hA
  case h_2 => exact hA.elim
  rename_i cs hcs
  obtain ⟨hro, hnl, hle, hA⟩ := hA
  refine ⟨_, [b], _, hA, by simp, fun N S G f2 h2 a w st hx hr hn oper ho => ?_⟩
  have h1 := st.ev x; rw [hx x (by simp [Op.operands]), hx0] at h1; simp only [R] at h1
  have hk2 : h2 b = some k := (hr b (by simp)).trans hk
  obtain ⟨h3, h4⟩ := cells_R hy0 (hx y (by simp [Op.operands]) ▸ st.ev y)
  have hb3 := cells_bd hy0 (hx y (by simp [Op.operands]) ▸ st.evbd y)
  obtain ⟨w', hrun, hrel, htr⟩ := Rel.storeCells (P := P) new _ h2 w b k i off 0 cs st.rel hk2 hro hcs (by omega) h3 h4 hb3 (i * G.σ b + off) (by omega)
  refine ⟨undef, w', G, .inr ⟨?_, rfl⟩, Gh.le.refl S G, ?_, ?_, by simp [R, lv, RP], by simp [lv, V.bd]⟩
  · have hsz : (a.eval y).cells.size = ti.size := by have := RL_length h3; simp at this; omega
    have h5 : (sizeOf t).run P w = .ok ti.size w := by simp [sizeOf, typeInfo, hi]
    simp [execOp, ho, h1, Instr.storeAt, Instr.sureAddr, storeVar, h5, hsz, hrun]
  · exact hrel.monoS fun b hb => .inl hb
  · exact htr

theorem snd_faddr {t : TypeId} {x : Operand} {j : Nat} {o : AO} (hc : compOp P (.fieldAddr t x j) = some o) (hA : AS o nb f h K) : Snd P (.fieldAddr t x j) nb f h K := by
  simp only [compOp] at hc
  split at hc
  case h_2 => cases hc
  rename_i fs hu
  split at hc
  case h_2 => cases hc
  rename_i fd hfd
  split at hc
  case h_2 => cases hc
  rename_i ti hi
  split at hc
  case isFalse => cases hc
  rename_i hpos
  simp only [Option.some.injEq] at hc; subst hc
  have run : ∀ (ad : Addr) (w : World), (Instr.fieldAt t (.pointer (some ad)) j).run P w = .ok (.pointer (some (ad.add fd.offset))) w := fun ad w => by
    have h5 : (sizeOf fd.type).run P w = .ok ti.size w := by simp [sizeOf, typeInfo, hi]
    simp [Instr.fieldAt, run_underlying hu, hfd, Instr.sureAddr, fieldPlace, h5, Nat.ne_of_gt hpos]
  simp only [AS] at hA
  split at hA
  · rename_i b i off hx0
    refine snd_pure _ hA fun N S G f2 h2 a w st hx oper ho => ?_
    have h1 := st.ev x; rw [hx x (by simp [Op.operands]), hx0] at h1; simp only [R] at h1
    have hb := st.evbd x; rw [hx x (by simp [Op.operands]), hx0] at hb
    exact ⟨.pointer (some (({ block := G.φ b, off := i * G.σ b + off } : Addr).add fd.offset)), by simp only [execOp, ho, h1, Sem.run_bind, run, Result.andThen_ok, Sem.run_pure], by simp only [R]; rw [add_plain', Nat.add_assoc], by simpa [V.bd] using hb⟩
  · rename_i cs hx0
    refine snd_pure _ hA fun N S G f2 h2 a w st hx oper ho => ?_
    have h1 := st.ev x; rw [hx x (by simp [Op.operands]), hx0] at h1; simp only [R, RP] at h1
    obtain ⟨ad, h1, h3⟩ := h1
    refine ⟨.pointer (some (ad.add fd.offset)), by simp only [execOp, ho, h1, Sem.run_bind, run, Result.andThen_ok, Sem.run_pure], ?_, by simp [V.bd]⟩
    simp only [R, RP]
    exact ⟨_, rfl, RPC_shift.2 (by simpa using RPC_drop (n := fd.offset) h3)⟩
  · exact hA.elim

theorem snd_iaddr {t : TypeId} {x y : Operand} {o : AO} (hc : compOp P (.indexAddr t x y) = some o) (hA : AS o nb f h K) : Snd P (.indexAddr t x y) nb f h K := by
  simp only [compOp] at hc
  split at hc
  case h_2 => cases hc
  rename_i e hu
  split at hc
  case h_2 => cases hc
  rename_i ti hi
  split at hc
  case isFalse => cases hc
  rename_i hpos
  simp only [Option.some.injEq] at hc; subst hc
  have hel : P.elem t = e := by simp [Program.elem, hu]
  have run : ∀ (ad : Addr) (len cap n : Nat) (kd : IntKind) (w : World), n < len → (Instr.indexAt t (.slice (some ad) len cap) (.int kd (n : Int))).run P w = .ok (.pointer (some (ad.add (n * ti.size)))) w := fun ad len cap n kd w hlt => by
    have h5 : (sizeOf e).run P w = .ok ti.size w := by simp [sizeOf, typeInfo, hi]
    rw [run_indexAt_slice w t ad len cap kd n (by rw [hel]; exact hu), if_pos ⟨by omega, by omega⟩, hel, h5]
    simp
  simp only [AS] at hA
  split at hA
  · rename_i sz' xs kd iv hx0 hy0
    obtain ⟨rfl, n, el, rfl, hel', hA⟩ := hA
    refine snd_pure _ hA fun N S G f2 h2 a w st hx oper ho => ?_
    have h1 := st.ev x; rw [hx x (by simp [Op.operands]), hx0] at h1; simp only [R, RP] at h1
    have h2' := st.ev y; rw [hx y (by simp [Op.operands]), hy0] at h2'; simp only [R, RP] at h2'
    obtain ⟨A, len, cap, h1, hlen, hcap, hbig, h3⟩ := h1
    have hlt : n < len := by rw [hlen]; exact (List.getElem?_eq_some_iff.1 hel').1
    rcases h3 with h3 | ⟨ad, rfl, h3⟩
    · omega
    · refine ⟨.pointer (some (ad.add (n * ti.size))), by simp only [execOp, ho, h1, h2', Sem.run_bind, run _ _ _ _ _ _ hlt, Result.andThen_ok, Sem.run_pure], ?_, by simp [V.bd]⟩
      simp only [R, RP]
      have := (RPE_iff.1 h3 n el hel').2
      exact ⟨_, rfl, RPC_shift.2 (by simpa using this)⟩
  · rename_i b m fl kd iv hx0 hy0
    split at hA
    case h_2 => exact hA.elim
    rename_i k hk
    obtain ⟨hsz, n, rfl, hlt, hA⟩ := hA
    refine ⟨_, [b], [], hA, by simp, fun N S G f2 h2 a w st hx hr hn oper ho => ?_⟩
    have h1 := st.ev x; rw [hx x (by simp [Op.operands]), hx0] at h1; simp only [R] at h1
    have hb := st.evbd x; rw [hx x (by simp [Op.operands]), hx0] at hb
    have h2' := st.ev y; rw [hx y (by simp [Op.operands]), hy0] at h2'; simp only [R, RP] at h2'
    obtain ⟨cap, h1, _⟩ := h1
    have hk2 : h2 b = some k := (hr b (by simp)).trans hk
    obtain ⟨arr, e', rr⟩ := st.rel.blk b k hk2
    refine outc_pure st (u := .pointer (some (({ block := G.φ b, off := 0 } : Addr).add (n * ti.size)))) (by simp only [execOp, ho, h1, h2', Sem.run_bind, run _ _ _ _ _ _ (Nat.lt_of_lt_of_le hlt (Nat.le_refl _)), Result.andThen_ok, Sem.run_pure]) ?_ (by simpa [V.bd] using hb)
    simp only [R]
    rw [add_plain', ← rr.sz, hsz]; simp
  · exact hA.elim
end
end Go.Ab
