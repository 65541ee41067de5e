/- The abstract memory's steps: a new block, a cell stored, an append, a block that is written no more; each with what it does to the world. -/
import Derived.Test.YtgphapkpoamcgaaBb1
set_option linter.unusedVariables false
set_option linter.unusedSimpArgs false
namespace Go.Ab
open Go.RowKit

def upd (h : HF) (b : Nat) (k : Option Blk) : HF := fun x => if x = b then k else h x
theorem upd_same (h : HF) (b : Nat) (k : Option Blk) : upd h b k b = k := by simp [upd]
theorem upd_other (h : HF) {b x : Nat} (k : Option Blk) (e : x ≠ b) : upd h b k x = h x := by simp [upd, e]

theorem Rel.lt {S G h w} (r : Rel S G h w) {b k} (hb : h b = some k) : G.φ b < w.heap.size := by
  obtain ⟨arr, e, _⟩ := r.blk b k hb
  exact (Array.getElem?_eq_some_iff.1 e).1
theorem Rel.imm_lt {S G h w} (r : Rel S G h w) {a v} (e : G.I a = some v) : a.block < w.heap.size := World.block_lt_of_cell? w a (r.imm a v e)

theorem BlkRel.mono {S : Nat → Prop} {G G' : Gh} {b : Nat} {k : Blk} {arr : Array Value} (r : BlkRel G b k arr) (hle : Gh.le S G G') (hS : S b) (hbd : ∀ cs ∈ k.xs, V.bdL S cs) : BlkRel G' b k arr := by
  refine ⟨r.sz.trans (hle.σ b hS).symm, r.size.trans (hle.κ b hS).symm, r.fits, r.len, fun i j cs c h1 h2 => ?_, fun hro i hi => ?_, fun m hm => ?_⟩
  · obtain ⟨u, e1, e2, e3⟩ := r.cell i j cs c h1 h2
    refine ⟨u, e1, e2, R_mono hle c u ?_ e3⟩
    have := hbd cs (List.mem_of_getElem? h1)
    exact bdL_get this (List.mem_of_getElem? h2)
  · have h0 := r.ro hro i hi
    have hlt : i < arr.size := Nat.lt_of_lt_of_le hi r.fits
    rw [hle.φ b hS]
    rw [Array.getElem?_eq_getElem hlt] at h0 ⊢
    exact hle.I _ _ h0
  · rw [r.tag m hm, hle.φ b hS, hle.κ b hS, hle.σ b hS]
where
  bdL_get {S : Nat → Prop} : ∀ {cs : List V} {c : V}, V.bdL S cs → c ∈ cs → c.bd S
    | [], _, _, h => by cases h
    | d :: cs, c, hb, h => by
      simp only [V.bdL] at hb
      rcases List.mem_cons.1 h with rfl | h
      · exact hb.1
      · exact bdL_get hb.2 h

theorem bdL_iff {S : Nat → Prop} {cs : List V} : V.bdL S cs ↔ ∀ c ∈ cs, c.bd S := by
  induction cs with
  | nil => simp [V.bdL]
  | cons c cs ih => simp [V.bdL, ih]

/-- the ghost behind a new block -/
def Gh.new (G : Gh) (nb : Nat) (g n sz : Nat) : Gh :=
  { G with φ := fun b => if b = nb then g else G.φ b, κ := fun b => if b = nb then n else G.κ b, σ := fun b => if b = nb then sz else G.σ b }
theorem Gh.new_le {S : Nat → Prop} {G : Gh} {nb g n sz : Nat} (hn : ¬ S nb) : Gh.le S G (G.new nb g n sz) := by
  refine ⟨fun b hb => ?_, fun b hb => ?_, fun b hb => ?_, Imm.le.refl _⟩ <;> (simp only [Gh.new]; rw [if_neg (by rintro rfl; exact hn hb)])

def SS (S : Nat → Prop) (nb : Nat) : Nat → Prop := fun b => S b ∨ b = nb

/-- a new block of cells -/
theorem Rel.alloc {S G h w} (r : Rel S G h w) {nb : Nat} (hn : ¬ S nb) (ty : TypeId) (sz : Nat) (arr : Array Value) (xs : List (List V))
    (hlen : ∀ (i : Nat) cs, xs[i]? = some cs → cs.length = sz) (hfit : xs.length * sz ≤ arr.size)
    (hc : ∀ (i j : Nat) cs c, xs[i]? = some cs → cs[j]? = some c → ∃ u, arr[i * sz + j]? = some u ∧ u.oneCell' = true ∧ R G c u) (hbd : ∀ cs ∈ xs, V.bdL S cs) :
    Rel (SS S nb) (G.new nb w.heap.size arr.size sz) (upd h nb (some ⟨false, ty, sz, xs, none⟩)) (w.alloc (.cells arr ty)) ∧
    Tr G h w (G.new nb w.heap.size arr.size sz) (upd h nb (some ⟨false, ty, sz, xs, none⟩)) (w.alloc (.cells arr ty)) := by
  have hle : Gh.le S G (G.new nb w.heap.size arr.size sz) := Gh.new_le hn
  have hφ : ∀ b, b ≠ nb → (G.new nb w.heap.size arr.size sz).φ b = G.φ b := fun b e => by simp [Gh.new, e]
  have hφn : (G.new nb w.heap.size arr.size sz).φ nb = w.heap.size := by simp [Gh.new]
  have hne : ∀ b k, h b = some k → b ≠ nb := fun b k e => by rintro rfl; exact hn (r.live _ _ e)
  have hSS : ∀ b, S b → SS S nb b := fun b hb => .inl hb
  refine ⟨⟨fun a v e => ?_, fun b k e => ?_, fun b b' k k' e e' eφ => ?_, fun b k e hro a v ea => ?_, fun b k e => ?_, fun b k e => ?_⟩, ⟨rfl, rfl, rfl, by simp, Imm.le.refl _, fun k hk _ => Below.heap_alloc w _ k hk, fun b blk e hro hlt => ?_, fun b blk e hlt => ?_, fun a v e _ => .inl e⟩⟩
  · rw [World.cell?_alloc_lt _ _ _ (r.imm_lt e)]; exact r.imm a v e
  · by_cases hb : b = nb
    · subst hb
      rw [upd_same] at e; cases e
      refine ⟨arr, by rw [hφn]; exact heap_alloc_new w _, ⟨by simp [Gh.new], by simp [Gh.new], hfit, hlen, fun i j cs c h1 h2 => ?_, fun h0 => by simp at h0, fun m hm => by cases hm⟩⟩
      obtain ⟨u, e1, e2, e3⟩ := hc i j cs c h1 h2
      exact ⟨u, e1, e2, R_mono hle c u (bdL_iff.1 (hbd cs (List.mem_of_getElem? h1)) c (List.mem_of_getElem? h2)) e3⟩
    · rw [upd_other _ _ hb] at e
      obtain ⟨arr', e', rr⟩ := r.blk b k e
      exact ⟨arr', by rw [hφ b hb, Below.heap_alloc w _ _ (r.lt e)]; exact e', rr.mono hle (r.live _ _ e) (r.bd _ _ e)⟩
  · by_cases hb : b = nb
    · by_cases hb' : b' = nb
      · rw [hb, hb']
      · subst hb
        rw [upd_other _ _ hb'] at e'
        rw [hφn, hφ b' hb'] at eφ
        have := r.lt e'; omega
    · rw [upd_other _ _ hb] at e
      by_cases hb' : b' = nb
      · subst hb'
        rw [hφn, hφ b hb] at eφ
        have := r.lt e; omega
      · rw [upd_other _ _ hb'] at e'
        rw [hφ b hb, hφ b' hb'] at eφ
        exact r.inj b b' k k' e e' eφ
  · have ha := r.imm_lt (a := a) (v := v) ea
    by_cases hb : b = nb
    · subst hb; rw [hφn]; omega
    · rw [upd_other _ _ hb] at e; rw [hφ b hb]; exact r.sep b k e hro a v ea
  · by_cases hb : b = nb
    · exact .inr hb
    · rw [upd_other _ _ hb] at e; exact .inl (r.live b k e)
  · by_cases hb : b = nb
    · subst hb; rw [upd_same] at e; cases e; exact fun cs hcs => V.bdL_mono hSS cs (hbd cs hcs)
    · rw [upd_other _ _ hb] at e; exact fun cs hcs => V.bdL_mono hSS cs (r.bd b k e cs hcs)
  · by_cases hb : b = nb
    · subst hb; rw [hφn] at hlt; omega
    · rw [upd_other _ _ hb] at e; rw [hφ b hb]; exact ⟨b, blk, e, hro, rfl⟩
  · by_cases hb : b = nb
    · subst hb; rw [hφn] at hlt; omega
    · rw [upd_other _ _ hb] at e; rw [hφ b hb]; exact ⟨b, blk, e, rfl⟩

theorem cell_arr {w : World} {g i : Nat} {arr : Array Value} {ty : TypeId} {fr : Nat × Nat} (h : w.heap[g]? = some (.cells arr ty fr)) : w.cell? ⟨g, i, none⟩ = arr[i]? := by
  simp [World.cell?, h]

/-- one cell of a block that may be written -/
theorem Rel.setCell {S G h w} (r : Rel S G h w) {b : Nat} {k : Blk} (hb : h b = some k) (hro : k.ro = false) {i j : Nat} {cs : List V} (hi : k.xs[i]? = some cs) (hj : j < cs.length)
    (c : V) (u : Value) (hu : R G c u) (h1 : u.oneCell' = true) (hbd : c.bd S) :
    (w.cell? ⟨G.φ b, i * G.σ b + j, none⟩).isSome = true ∧ w.frozen? ⟨G.φ b, i * G.σ b + j, none⟩ = false ∧
    Rel S G (upd h b (some { k with xs := k.xs.set i (cs.set j c) })) (w.setCell ⟨G.φ b, i * G.σ b + j, none⟩ u) ∧
    Tr G h w G (upd h b (some { k with xs := k.xs.set i (cs.set j c) })) (w.setCell ⟨G.φ b, i * G.σ b + j, none⟩ u) := by
  obtain ⟨arr, e, rr⟩ := r.blk b k hb
  obtain ⟨u0, eu0, _, _⟩ := rr.cell i j cs _ hi (List.getElem?_eq_getElem hj)
  have hlt : i * k.sz + j < arr.size := (Array.getElem?_eq_some_iff.1 eu0).1
  have hi' : i < k.xs.length := (List.getElem?_eq_some_iff.1 hi).1
  have hlen : cs.length = k.sz := rr.len i cs hi
  have hcell : w.cell? ⟨G.φ b, i * G.σ b + j, none⟩ = some u0 := by rw [cell_arr e, ← rr.sz]; exact eu0
  have hset : (w.setCell ⟨G.φ b, i * G.σ b + j, none⟩ u).heap[G.φ b]? = some (.cells (arr.setIfInBounds (i * k.sz + j) u) k.ty (0, 0)) := by
    simp only [World.setCell, Array.getElem?_modify, if_true, e, ← rr.sz]
    simp
  refine ⟨by rw [hcell]; rfl, by simp [World.frozen?, e], ⟨fun a v ea => ?_, fun b' k' e' => ?_, fun b1 b2 k1 k2 e1 e2 eφ => ?_, fun b' k' e' hro' a v ea => ?_, fun b' k' e' => ?_, fun b' k' e' => ?_⟩,
    ⟨rfl, rfl, rfl, by simp, Imm.le.refl _, fun n hn hno => Below.heap_setCell _ _ _ _ fun hh => hno b k hb hro hh.symm, fun b' k' e' hro' hlt' => ?_, fun b' k' e' hlt' => ?_, fun a v e _ => .inl e⟩⟩
  · have hne := r.sep b k hb hro a v ea
    rw [World.cell?_setCell_other]
    · exact r.imm a v ea
    · intro he; rw [← he] at hne; exact hne rfl
  · by_cases hbb : b' = b
    · subst hbb
      rw [upd_same] at e'; cases e'
      refine ⟨_, hset, ⟨rr.sz, by simp [rr.size], by simp [rr.fits], fun n ds hn => ?_, fun n m ds d hn hm => ?_, fun h0 => by simp [hro] at h0, rr.tag⟩⟩
      · simp only [List.getElem?_set] at hn
        split at hn
        · first
            | (cases hn; simpa using hlen)
            | (split at hn
               · cases hn; simpa using hlen
               · simp at hn)
        · exact rr.len n ds hn
      · simp only [List.getElem?_set] at hn
        by_cases hni : i = n
        · subst hni
          simp only [if_true, hi', Option.some.injEq] at hn
          subst hn
          simp only [List.getElem?_set] at hm
          by_cases hjm : j = m
          · subst hjm
            simp only [if_true, hj, Option.some.injEq] at hm
            subst hm
            exact ⟨u, by simp [Array.getElem?_setIfInBounds, hlt], h1, hu⟩
          · rw [if_neg hjm] at hm
            obtain ⟨v, ev, ev1, ev2⟩ := rr.cell i m cs d hi hm
            exact ⟨v, by rw [Array.getElem?_setIfInBounds_ne (show i * k.sz + j ≠ i * k.sz + m by omega)]; exact ev, ev1, ev2⟩
        · rw [if_neg hni] at hn
          obtain ⟨v, ev, ev1, ev2⟩ := rr.cell n m ds d hn hm
          refine ⟨v, ?_, ev1, ev2⟩
          rw [Array.getElem?_setIfInBounds_ne ?_]
          · exact ev
          · have hmlt : m < k.sz := by rw [← rr.len n ds hn]; exact (List.getElem?_eq_some_iff.1 hm).1
            rw [hlen] at hj
            intro he
            apply hni
            have h2 : (i * k.sz + j) / k.sz = (n * k.sz + m) / k.sz := by rw [he]
            rw [Nat.mul_comm i, Nat.mul_comm n, Nat.mul_add_div (by omega), Nat.mul_add_div (by omega), Nat.div_eq_of_lt hj, Nat.div_eq_of_lt hmlt] at h2
            omega
    · rw [upd_other _ _ hbb] at e'
      obtain ⟨arr', ea', rr'⟩ := r.blk b' k' e'
      refine ⟨arr', ?_, rr'⟩
      rw [Below.heap_setCell _ _ _ _ fun hh => hbb (r.inj b' b k' k e' hb hh)]
      exact ea'
  · have f : ∀ b' k', upd h b (some { k with xs := k.xs.set i (cs.set j c) }) b' = some k' → ∃ k0, h b' = some k0 := fun b' k' e' => by
      by_cases hbb : b' = b
      · subst hbb; exact ⟨k, hb⟩
      · rw [upd_other _ _ hbb] at e'; exact ⟨k', e'⟩
    obtain ⟨x1, f1⟩ := f _ _ e1
    obtain ⟨x2, f2⟩ := f _ _ e2
    exact r.inj b1 b2 x1 x2 f1 f2 eφ
  · by_cases hbb : b' = b
    · subst hbb; exact r.sep b' k hb hro a v ea
    · rw [upd_other _ _ hbb] at e'; exact r.sep b' k' e' hro' a v ea
  · by_cases hbb : b' = b
    · subst hbb; exact r.live b' k hb
    · rw [upd_other _ _ hbb] at e'; exact r.live b' k' e'
  · by_cases hbb : b' = b
    · subst hbb
      rw [upd_same] at e'; cases e'
      intro ds hds
      rcases List.mem_or_eq_of_mem_set hds with hds | rfl
      · exact r.bd b' k hb ds hds
      · refine bdL_iff.2 fun d hd => ?_
        rcases List.mem_or_eq_of_mem_set hd with hd | rfl
        · exact bdL_iff.1 (r.bd b' k hb cs (List.mem_of_getElem? hi)) d hd
        · exact hbd
    · rw [upd_other _ _ hbb] at e'; exact r.bd b' k' e'
  · by_cases hbb : b' = b
    · subst hbb; exact ⟨b', k, hb, hro, rfl⟩
    · rw [upd_other _ _ hbb] at e'; exact ⟨b', k', e', hro', rfl⟩
  · by_cases hbb : b' = b
    · subst hbb; exact ⟨b', k, hb, rfl⟩
    · rw [upd_other _ _ hbb] at e'; exact ⟨b', k', e', rfl⟩

/-- new cells from place j on -/
def spl (cs : List V) (j : Nat) : List V → List V
  | [] => cs
  | c :: new => spl (cs.set j c) (j + 1) new
theorem length_spl : ∀ (new : List V) (cs : List V) (j : Nat), (spl cs j new).length = cs.length
  | [], _, _ => rfl
  | c :: new, cs, j => by rw [spl, length_spl new, List.length_set]

theorem upd_upd (h : HF) (b : Nat) (k k' : Option Blk) : upd (upd h b k) b k' = upd h b k' := by
  funext x; by_cases hx : x = b <;> simp [upd, hx]
theorem upd_self (h : HF) (b : Nat) (k : Option Blk) (e : h b = k) : upd h b k = h := by
  funext x; by_cases hx : x = b <;> simp [upd, hx, e]

theorem add_plain' (g o j : Nat) : (⟨g, o, none⟩ : Addr).add j = ⟨g, o + j, none⟩ := by unfold Addr.add; split <;> simp_all

theorem Rel.storeCells {P : Program} {S : Nat → Prop} {G : Gh} : ∀ (new : List V) (us : List Value) (h : HF) (w : World) (b : Nat) (k : Blk) (i j m : Nat) (cs : List V), Rel S G h w → h b = some k → k.ro = false → k.xs[i]? = some cs →
    j + new.length ≤ cs.length → RL G new us → (∀ u ∈ us, u.oneCell' = true) → V.bdL S new → ∀ o, o + m = i * G.σ b + j →
    ∃ w', (Go.storeCells ⟨G.φ b, o, none⟩ us m).run P w = .ok () w' ∧ Rel S G (upd h b (some { k with xs := k.xs.set i (spl cs j new) })) w' ∧ Tr G h w G (upd h b (some { k with xs := k.xs.set i (spl cs j new) })) w'
  | [], us, h, w, b, k, i, j, m, cs, r, hb, hro, hi, hl, hr, h1, hbd, o, ho => by
    simp only [RL] at hr; subst hr
    have he : ({ k with xs := k.xs.set i (spl cs j []) } : Blk) = k := by
      have : k.xs.set i cs = k.xs := by
        apply List.ext_getElem?; intro n; rw [List.getElem?_set]; split
        · subst_vars; split
          · rw [hi]
          · rename_i hlt; rw [List.getElem?_eq_none (by omega)]
        · rfl
      simp [spl, this]
    rw [he, upd_self h b _ hb]
    exact ⟨w, by simp [Go.storeCells], r, Tr.refl _ _ _⟩
  | c :: new, us, h, w, b, k, i, j, m, cs, r, hb, hro, hi, hl, hr, h1, hbd, o, ho => by
    simp only [RL] at hr
    obtain ⟨u, us', rfl, hr1, hr2⟩ := hr
    simp only [V.bdL] at hbd
    have hu1 : u.oneCell' = true := h1 u (by simp)
    obtain ⟨hc, hf, r', t'⟩ := r.setCell hb hro hi (j := j) (by simp at hl; omega) c u hr1 hu1 hbd.1
    have hi' : i < k.xs.length := (List.getElem?_eq_some_iff.1 hi).1
    obtain ⟨w', hrun, r'', t''⟩ := Rel.storeCells (P := P) new us' _ _ b { k with xs := k.xs.set i (cs.set j c) } i (j + 1) (m + 1) (cs.set j c) r' (upd_same _ _ _) hro (by simp [List.getElem?_set, hi']) (by simp at hl ⊢; omega) hr2
      (fun v hv => h1 v (by simp [hv])) hbd.2 o (by omega)
    refine ⟨w', ?_, ?_, ?_⟩
    · simp only [Go.storeCells, Sem.run_bind, add_plain']
      rw [show o + m = i * G.σ b + j from ho, run_store _ _ _ _ _ hu1]
      obtain ⟨x, hx⟩ := Option.isSome_iff_exists.1 hc
      simp only [hx, hf, Bool.false_eq_true, if_false, Result.andThen_ok]
      exact hrun
    · rw [upd_upd] at r''; simpa [spl, List.set_set] using r''
    · rw [upd_upd] at t''; simpa [spl, List.set_set] using t'.trans t''
end Go.Ab
