/- append, in the abstract memory. -/
import Derived.Test.YtgphapkpoamcgaaBb2
set_option linter.unusedVariables false
set_option linter.unusedSimpArgs false
namespace Go.Ab
open Go.RowKit

/-- the cells of the rows ys, laid one behind the other -/
structure Src (G : Gh) (sz : Nat) (w : World) (A : Option Addr) (ys : List (List V)) : Prop where
  len : ∀ cs ∈ ys, cs.length = sz
  cells : ys = [] ∨ ∃ (ad : Addr) (news : List Value), A = some ad ∧ news.length = ys.length * sz ∧ (∀ (j : Nat) u, news[j]? = some u → w.cell? (ad.add j) = some u) ∧ (∀ u ∈ news, u.oneCell' = true) ∧
    (∀ (i j : Nat) cs c, ys[i]? = some cs → cs[j]? = some c → ∃ u, news[i * sz + j]? = some u ∧ R G c u)

/-- what stands where the grown row lies, in the old block or in a new one -/
theorem Rel.regrow {S G h w} (r : Rel S G h w) {b nb : Nat} {k : Blk} (hn : ¬ S nb) (hb : h b = some k) (hro : k.ro = false) (ys : List (List V))
    (hlen : ∀ cs ∈ ys, cs.length = k.sz) (hbd : ∀ cs ∈ ys, V.bdL S cs) {w' : World} {g cap : Nat} {cur : Array Value} (hg : w.grownBy w' (some (G.φ b)))
    (hat : g = G.φ b ∨ g = w.heap.size) (hh : w'.heap[g]? = some (.cells cur k.ty (0, 0))) (hcur : cur.size = cap * k.sz) (hcap : k.xs.length + ys.length ≤ cap) (hcm : cap ≤ maxLen) (hbig : k.xs.length + ys.length ≤ big)
    (hc : ∀ (i j : Nat) cs c, (k.xs ++ ys)[i]? = some cs → cs[j]? = some c → ∃ u, cur[i * k.sz + j]? = some u ∧ u.oneCell' = true ∧ R G c u) :
    Gh.le S G (G.new nb g cur.size k.sz) ∧ Rel (SS S nb) (G.new nb g cur.size k.sz) (upd (upd h b none) nb (some ⟨false, k.ty, k.sz, k.xs ++ ys, none⟩)) w' ∧
    Tr G h w (G.new nb g cur.size k.sz) (upd (upd h b none) nb (some ⟨false, k.ty, k.sz, k.xs ++ ys, none⟩)) w' ∧
    R (G.new nb g cur.size k.sz) (.row nb (k.xs.length + ys.length) false) (.slice (some ⟨g, 0, none⟩) (k.xs.length + ys.length) cap) := by
  have hle : Gh.le S G (G.new nb g cur.size k.sz) := Gh.new_le hn
  have hφ : ∀ b', b' ≠ nb → (G.new nb g cur.size k.sz).φ b' = G.φ b' := fun b' e => by simp [Gh.new, e]
  have hφn : (G.new nb g cur.size k.sz).φ nb = g := by simp [Gh.new]
  have hSS : ∀ b, S b → SS S nb b := fun b hb => .inl hb
  have hbnb : b ≠ nb := by rintro rfl; exact hn (r.live _ _ hb)
  have get : ∀ b' k', b' ≠ nb → upd (upd h b none) nb (some ⟨false, k.ty, k.sz, k.xs ++ ys, none⟩) b' = some k' → b' ≠ b ∧ h b' = some k' := fun b' k' e1 e => by
    rw [upd_other _ _ e1] at e
    by_cases hbb : b' = b
    · subst hbb; rw [upd_same] at e; cases e
    · rw [upd_other _ _ hbb] at e; exact ⟨hbb, e⟩
  have hlen' : ∀ (i : Nat) cs, (k.xs ++ ys)[i]? = some cs → cs.length = k.sz := fun i cs e => by
    obtain ⟨arr, _, rr⟩ := r.blk b k hb
    rw [List.getElem?_append] at e
    split at e
    · exact rr.len i cs e
    · exact hlen cs (List.mem_of_getElem? e)
  have hbd' : ∀ cs ∈ k.xs ++ ys, V.bdL S cs := fun cs e => by
    rcases List.mem_append.1 e with e | e
    · exact r.bd b k hb cs e
    · exact hbd cs e
  have keep : ∀ n, n < w.heap.size → n ≠ G.φ b → w'.heap[n]? = w.heap[n]? := fun n h1 h2 => hg.block n h1 (by simpa using h2)
  refine ⟨hle, ⟨fun a v e => ?_, fun b' k' e => ?_, fun b1 b2 k1 k2 e1 e2 eφ => ?_, fun b' k' e hro' a v ea => ?_, fun b' k' e => ?_, fun b' k' e => ?_⟩,
    ⟨hg.os, hg.tape, hg.output, hg.size, Imm.le.refl _, fun n hn' hno => keep n hn' fun e => hno b k hb hro e.symm, fun b' k' e hro' hlt => ?_, fun b' k' e hlt => ?_, fun a v e _ => .inl e⟩, ?_⟩
  · have hne := r.sep b k hb hro a v e
    rw [World.cell?_of_block (w := w) (keep _ (r.imm_lt e) hne)]; exact r.imm a v e
  · by_cases hb' : b' = nb
    · subst hb'
      rw [upd_same] at e; cases e
      refine ⟨cur, by rw [hφn]; exact hh, ⟨by simp [Gh.new], by simp [Gh.new], ?_, hlen', fun i j cs c h1 h2 => ?_, fun h0 => by simp at h0, fun m hm => by cases hm⟩⟩
      · rw [hcur, List.length_append]; exact Nat.mul_le_mul_right _ hcap
      · obtain ⟨u, e1, e2, e3⟩ := hc i j cs c h1 h2
        exact ⟨u, e1, e2, R_mono hle c u (bdL_iff.1 (hbd' cs (List.mem_of_getElem? h1)) c (List.mem_of_getElem? h2)) e3⟩
    · obtain ⟨hbb, e⟩ := get b' k' hb' e
      obtain ⟨arr', e', rr⟩ := r.blk b' k' e
      refine ⟨arr', ?_, rr.mono hle (r.live _ _ e) (r.bd _ _ e)⟩
      rw [hφ b' hb', keep _ (r.lt e) fun hh => hbb (r.inj b' b k' k e hb hh)]; exact e'
  · by_cases h1 : b1 = nb
    · by_cases h2 : b2 = nb
      · rw [h1, h2]
      · obtain ⟨hbb, f2⟩ := get b2 k2 h2 e2
        rw [h1, hφn, hφ b2 h2] at eφ
        rcases hat with hat | hat
        · exact absurd (r.inj b b2 k k2 hb f2 (hat.symm.trans eφ)) fun e => hbb e.symm
        · have := r.lt f2; omega
    · obtain ⟨hbb, f1⟩ := get b1 k1 h1 e1
      by_cases h2 : b2 = nb
      · rw [h2, hφn, hφ b1 h1] at eφ
        rcases hat with hat | hat
        · exact absurd (r.inj b1 b k1 k f1 hb (eφ.trans hat)) hbb
        · have := r.lt f1; omega
      · obtain ⟨hbb2, f2⟩ := get b2 k2 h2 e2
        rw [hφ b1 h1, hφ b2 h2] at eφ
        exact r.inj b1 b2 k1 k2 f1 f2 eφ
  · have ha := r.imm_lt (a := a) (v := v) ea
    by_cases hb' : b' = nb
    · subst hb'; rw [hφn]
      rcases hat with hat | hat
      · rw [hat]; exact r.sep b k hb hro a v ea
      · omega
    · obtain ⟨hbb, e⟩ := get b' k' hb' e
      rw [hφ b' hb']; exact r.sep b' k' e hro' a v ea
  · by_cases hb' : b' = nb
    · exact .inr hb'
    · exact .inl (r.live b' k' (get b' k' hb' e).2)
  · by_cases hb' : b' = nb
    · subst hb'; rw [upd_same] at e; cases e; exact fun cs hcs => V.bdL_mono hSS cs (hbd' cs hcs)
    · exact fun cs hcs => V.bdL_mono hSS cs (r.bd b' k' (get b' k' hb' e).2 cs hcs)
  · by_cases hb' : b' = nb
    · subst hb'; rw [hφn] at hlt
      rcases hat with hat | hat
      · exact ⟨b, k, hb, hro, by rw [hφn, hat]⟩
      · omega
    · obtain ⟨hbb, e⟩ := get b' k' hb' e
      rw [hφ b' hb']; exact ⟨b', k', e, hro', rfl⟩
  · by_cases hb' : b' = nb
    · subst hb'; rw [hφn] at hlt
      rcases hat with hat | hat
      · exact ⟨b, k, hb, by rw [hφn, hat]⟩
      · omega
    · obtain ⟨hbb, e⟩ := get b' k' hb' e
      rw [hφ b' hb']; exact ⟨b', k', e, rfl⟩
  · simp only [R]
    exact ⟨cap, by simp [Gh.new], hcap, hbig, hcm, by simp [Gh.new, hcur], by simp⟩

theorem run_append_zero {P : Program} (t ty e : TypeId) (i : TypeInfo) (ht : P.underlying t = some (.slice e)) (hi : P.info? e = some i) (B A : Option Addr) (n cap c : Nat) (hn : n ≤ cap) (w : World) :
    (Builtin.append_ #[t, t] ty #[.slice B n cap, .slice A 0 c]).run P w = .ok (.slice B n cap) w := by
  cases B <;> cases A <;> simp [Builtin.append_, run_underlying ht, sizeOf, typeInfo, hi, Builtin.lenOf, Builtin.firstCells, loadCells, loadCellsFrom, Go.storeCells, hn]

theorem take_get {α : Type} {l : List α} {n i : Nat} (h : i < n) : (l.take n)[i]? = l[i]? := by
  rw [List.getElem?_take, if_pos h]

/-- a row of the call's own, whole: it is used up -/
theorem Rel.append_own {P : Program} {S G h w} (r : Rel S G h w) {b nb : Nat} {k : Blk} (hn : ¬ S nb) (hb : h b = some k) (hro : k.ro = false) (cap : Nat) (hcap : k.xs.length ≤ cap) (hcm : cap ≤ maxLen) (hκ : cap * G.σ b = G.κ b)
    (t ty : TypeId) (i : TypeInfo) (z : Value) (ht : P.underlying t = some (.slice k.ty)) (hi : P.info? k.ty = some i) (hz : i.zero = some z) (hsz : i.size = k.sz) (hzs : z.cells.size = k.sz) (hpos : 0 < k.sz)
    (A : Option Addr) (c : Nat) (ys : List (List V)) (hs : Src G k.sz w A ys) (hbd : ∀ cs ∈ ys, V.bdL S cs) (hbytes : (k.xs.length + ys.length) * i.bytes ≤ 140737488355328) (hbig : k.xs.length + ys.length ≤ big) :
    ∃ u w' G', (Builtin.append_ #[t, t] ty #[.slice (some ⟨G.φ b, 0, none⟩) k.xs.length cap, .slice A ys.length c]).run P w = .ok u w' ∧ Gh.le S G G' ∧
      Rel (SS S nb) G' (upd (upd h b none) nb (some ⟨false, k.ty, k.sz, k.xs ++ ys, none⟩)) w' ∧ Tr G h w G' (upd (upd h b none) nb (some ⟨false, k.ty, k.sz, k.xs ++ ys, none⟩)) w' ∧
      R G' (.row nb (k.xs.length + ys.length) false) u := by
  obtain ⟨arr, e, rr⟩ := r.blk b k hb
  have hσ : G.σ b = k.sz := rr.sz.symm
  have harr : arr.size = cap * k.sz := by rw [rr.size, ← hκ, hσ]
  rcases hs.cells with hy | ⟨ad, news, rfl, hnl, hcell, hone, hrel⟩
  · subst hy
    obtain ⟨h1, h2, h3, h4⟩ := r.regrow (nb := nb) hn hb hro [] (by simp) (by simp) (w' := w) (g := G.φ b) (cap := cap) (cur := arr) ⟨rfl, rfl, rfl, Nat.le_refl _, fun _ _ _ => rfl⟩ (.inl rfl) e harr (by simpa using hcap) hcm (by simpa using hbig)
      (fun i j cs c h1 h2 => rr.cell i j cs c (by simpa using h1) h2)
    exact ⟨_, w, _, run_append_zero t ty k.ty i ht hi _ A _ _ c hcap w, h1, h2, h3, by simpa using h4⟩
  · have hown : w.ownsRow 0 k.ty k.sz (.slice (some ⟨G.φ b, 0, none⟩) k.xs.length cap) k.xs.length (arr.toList.take (k.xs.length * k.sz)) := by
      refine ⟨?_, .inr ⟨_, _, _, rfl, Nat.zero_le _, e, hcap, hcm, harr, rfl⟩⟩
      rw [List.length_take, Array.length_toList]
      have := Nat.mul_le_mul_right k.sz hcap
      omega
    obtain ⟨v', w', hrun, hown', hg, hnil, hat⟩ := run_append_own_at (P := P) w 0 t ty k.ty i z k.sz i.bytes ht hi hz hsz rfl hzs hpos _ _ _ hown ad ys.length c news hnl hcell hone (by unfold maxLen; unfold big at hbig; omega) hbytes (Nat.zero_le _)
    rcases hown'.2 with ⟨hv, _⟩ | ⟨g, cap', cur, hv, _, hh, hc1, hc2, hc3, htake⟩
    · have := hnil.1 hv; simp at this
    · subst hv
      have hat' : g = G.φ b ∨ g = w.heap.size := by simpa [Value.ownBlock] using hat
      have hg' : w.grownBy w' (some (G.φ b)) := by simpa [Value.ownBlock] using hg
      obtain ⟨h1, h2, h3, h4⟩ := r.regrow (nb := nb) hn hb hro ys hs.len hbd (w' := w') (g := g) (cap := cap') (cur := cur) hg' hat' hh hc3 hc1 hc2 hbig (fun i j cs c h1 h2 => by
        have hlen : cs.length = k.sz := by
          rw [List.getElem?_append] at h1
          split at h1
          · exact rr.len i cs h1
          · exact hs.len cs (List.mem_of_getElem? h1)
        have hjlt : j < k.sz := by rw [← hlen]; exact (List.getElem?_eq_some_iff.1 h2).1
        have hil : i < k.xs.length + ys.length := by have := (List.getElem?_eq_some_iff.1 h1).1; simpa using this
        have hlt : i * k.sz + j < (k.xs.length + ys.length) * k.sz := by
          have := Nat.mul_le_mul_right k.sz (show i + 1 ≤ k.xs.length + ys.length by omega)
          rw [Nat.add_mul] at this; omega
        have hcurget : cur[i * k.sz + j]? = (arr.toList.take (k.xs.length * k.sz) ++ news)[i * k.sz + j]? := by
          rw [← htake, take_get hlt, Array.getElem?_toList]
        rw [hcurget]
        have hl1 : (arr.toList.take (k.xs.length * k.sz)).length = k.xs.length * k.sz := hown.1
        rw [List.getElem?_append] at h1
        split at h1
        · rename_i hilt
          obtain ⟨u, e1, e2, e3⟩ := rr.cell i j cs c h1 h2
          have hlt2 : i * k.sz + j < k.xs.length * k.sz := by
            have := Nat.mul_le_mul_right k.sz (show i + 1 ≤ k.xs.length by omega)
            rw [Nat.add_mul] at this; omega
          refine ⟨u, ?_, e2, e3⟩
          rw [List.getElem?_append_left (by omega), take_get hlt2, Array.getElem?_toList]; exact e1
        · rename_i hige
          obtain ⟨u, e1, e3⟩ := hrel (i - k.xs.length) j cs c h1 h2
          refine ⟨u, ?_, hone u (List.mem_of_getElem? e1), e3⟩
          have hm : k.xs.length * k.sz ≤ i * k.sz := Nat.mul_le_mul_right _ (by omega)
          rw [List.getElem?_append_right (by omega), hl1, ← e1, Nat.sub_mul]
          congr 1; omega)
      exact ⟨_, w', _, hrun, h1, h2, h3, h4⟩

/-- onto nothing: a new row -/
theorem Rel.append_new {P : Program} {S G h w} (r : Rel S G h w) {nb : Nat} (hn : ¬ S nb) (sz : Nat) (e : TypeId)
    (t ty : TypeId) (i : TypeInfo) (z : Value) (ht : P.underlying t = some (.slice e)) (hi : P.info? e = some i) (hz : i.zero = some z) (hsz : i.size = sz) (hzs : z.cells.size = sz) (hpos : 0 < sz)
    (B A : Option Addr) (c n : Nat) (xs ys : List (List V)) (hxs : xs.length = n) (hsx : Src G sz w B xs) (hs : Src G sz w A ys) (hne : ys ≠ []) (hbdx : ∀ cs ∈ xs, V.bdL S cs) (hbd : ∀ cs ∈ ys, V.bdL S cs)
    (hB : n = 0 → B = none) (hbytes : (n + ys.length) * i.bytes ≤ 140737488355328) (hbig : n + ys.length ≤ big) :
    ∃ u w' G', (Builtin.append_ #[t, t] ty #[.slice B n n, .slice A ys.length c]).run P w = .ok u w' ∧ Gh.le S G G' ∧
      Rel (SS S nb) G' (upd h nb (some ⟨false, e, sz, xs ++ ys, none⟩)) w' ∧ Tr G h w G' (upd h nb (some ⟨false, e, sz, xs ++ ys, none⟩)) w' ∧
      R G' (.row nb (n + ys.length) false) u := by
  subst hsz
  subst hxs
  rcases hs.cells with hy | ⟨ad, news, rfl, hnl, hcell, hone, hrel⟩
  · exact absurd hy hne
  have hpos' : 0 < ys.length := List.length_pos_iff.2 hne
  have hm1 : xs.length + ys.length ≤ maxLen := by unfold maxLen; unfold big at hbig; omega
  -- what is there before: its cells
  have hold : ∃ olds : List Value, olds.length = xs.length * i.size ∧ (∀ (i' j : Nat) cs c, xs[i']? = some cs → cs[j]? = some c → ∃ u, olds[i' * i.size + j]? = some u ∧ u.oneCell' = true ∧ R G c u) ∧
      (Builtin.append_ #[t, t] ty #[.slice B xs.length xs.length, .slice (some ad) ys.length c]).run P w =
        .ok (.slice (some ⟨w.heap.size, 0, none⟩) (xs.length + ys.length) (grownCap w (xs.length + ys.length) xs.length e))
          (w.drew.alloc (.cells (olds.toArray ++ news.toArray ++ Builtin.zeroCells z.cells (grownCap w (xs.length + ys.length) xs.length e - (xs.length + ys.length))) e)) := by
    rcases hsx.cells with hx | ⟨bd, olds, rfl, hol, hoc, hoo, hor⟩
    · subst hx
      have hB' : B = none := hB rfl
      subst hB'
      refine ⟨[], by simp, by simp, ?_⟩
      have hr := run_append_nil (P := P) w t ty e i z ht hi hz ad ys.length c news hnl hcell hpos' (by simp only [List.length_nil, Nat.zero_add, maxLen] at hm1; omega) (by simp only [List.length_nil, Nat.zero_add] at hbytes; omega)
      simpa using hr
    · refine ⟨olds, hol, fun i' j cs c h1 h2 => ?_, ?_⟩
      · obtain ⟨u, e1, e2⟩ := hor i' j cs c h1 h2
        exact ⟨u, e1, hoo u (List.mem_of_getElem? e1), e2⟩
      · exact run_append_grow (P := P) w t ty e i z ht hi hz bd xs.length xs.length olds hol hoc ad ys.length c news hnl hcell (by omega) (by simp only [maxLen] at hm1; omega) (growslice_fits (by omega) hbytes)
  obtain ⟨olds, hol, hoc, hrun⟩ := hold
  have hge := grownCap_ge w (xs.length + ys.length) xs.length e
  have hcm := grownCap_le_maxLen w (xs.length + ys.length) xs.length e hm1
  generalize grownCap w (xs.length + ys.length) xs.length e = gc at *
  have hsize : (olds.toArray ++ news.toArray ++ Builtin.zeroCells z.cells (gc - (xs.length + ys.length))).size = gc * i.size := by
    simp only [Array.size_append, List.size_toArray, size_zeroCells, hzs, hol, hnl, ← Nat.add_mul]
    congr 1; omega
  have hlen' : ∀ (i' : Nat) cs, (xs ++ ys)[i']? = some cs → cs.length = i.size := fun i' cs e => by
    rw [List.getElem?_append] at e
    split at e
    · exact hsx.len cs (List.mem_of_getElem? e)
    · exact hs.len cs (List.mem_of_getElem? e)
  obtain ⟨h1, h2⟩ := r.drew.alloc (nb := nb) hn e i.size (olds.toArray ++ news.toArray ++ Builtin.zeroCells z.cells (gc - (xs.length + ys.length))) (xs ++ ys) hlen'
    (by rw [hsize, List.length_append]; exact Nat.mul_le_mul_right _ hge) (fun i' j cs c h1 h2 => by
      have hjlt : j < i.size := by rw [← hlen' i' cs h1]; exact (List.getElem?_eq_some_iff.1 h2).1
      have hil : i' < xs.length + ys.length := by have := (List.getElem?_eq_some_iff.1 h1).1; simpa using this
      rw [← Array.getElem?_toList]
      simp only [Array.toList_append]
      rw [List.getElem?_append] at h1
      split at h1
      · rename_i hilt
        have hlt2 : i' * i.size + j < xs.length * i.size := by
          have := Nat.mul_le_mul_right i.size (show i' + 1 ≤ xs.length by omega)
          rw [Nat.add_mul] at this; omega
        obtain ⟨u, e1, e2, e3⟩ := hoc i' j cs c h1 h2
        refine ⟨u, ?_, e2, e3⟩
        rw [List.append_assoc, List.getElem?_append_left (by omega)]; exact e1
      · rename_i hige
        obtain ⟨u, e1, e3⟩ := hrel (i' - xs.length) j cs c h1 h2
        have hlt3 := (List.getElem?_eq_some_iff.1 e1).1
        refine ⟨u, ?_, hone u (List.mem_of_getElem? e1), e3⟩
        have hm : xs.length * i.size ≤ i' * i.size := Nat.mul_le_mul_right _ (by omega)
        rw [List.append_assoc, List.getElem?_append_right (by omega), hol, List.getElem?_append_left (by rw [Nat.sub_mul] at hlt3; omega), ← e1, Nat.sub_mul]
        congr 1; omega)
    (fun cs hcs => by
      rcases List.mem_append.1 hcs with e | e
      · exact hbdx cs e
      · exact hbd cs e)
  refine ⟨_, _, _, hrun, ?_, h1, ⟨rfl, rfl, rfl, h2.size, h2.I, h2.old, h2.muts, h2.lives, h2.inew⟩, ?_⟩
  · exact Gh.new_le hn
  · simp only [R]
    exact ⟨gc, by simp [Gh.new], hge, hbig, hcm, by simp only [Gh.new, if_true]; exact hsize.symm, by simp⟩
end Go.Ab
